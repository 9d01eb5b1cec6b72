import Derived.Test.YthobcefghkeddaaGreatDoorPl14
import Derived.Test.YthobcefghkeddaaGreatDoorPl8
set_option maxRecDepth 100000
set_option linter.all false
set_option maxHeartbeats 4000000
namespace Go.Proofs.YthobcefghkeddaaGreatDoor
namespace Rs
open Go.RowKit Ck
variable {w0 w:World} {b:Nat} {φ:Nat→Prop}
theorem dB.fresh{e:SlE}(h:dB w0 b φ e w):∀g o,e.A=some ⟨g,o,none⟩→0<e.n→w0.heap.size≤g:=fun g o B D=>by
 obtain⟨_,l,C,_,y,_⟩:=h
 rcases Ψ g w0.heap.size with c|c
 ·obtain⟨A,c2,d,_,_,j⟩:=y g c
  obtain⟨u,e3,_,e4,_⟩:=j χ;rw[B,e3]at d;have q:g=u:=by
   have:=congrArg (fun v=>match v with|Value.slice (some x) _ _=>x.block|_=>0) d;exact this
  exact absurd q.symm e4
 ·exact c
theorem dB.mono{d:World}{e:SlE}(h:dB d b φ e w)(B:w0.heap.size≤d.heap.size):dB w0 b φ e w:=by
 obtain⟨g,l,j,u,v,x⟩:=h;exact⟨g,l,j,u,fun q y=>v q χ,x⟩
def l1S(e:SlE)(size al:Nat)(o:Option Nat):Sta where
 i j:=match j with|0=>size|1=>al|_=>(o.getD 0:Nat)
 b _:=o.isSome
 a _:=e.A
 n j:=match j with|17=>e.n|_=>e.c
def l1R:Fr:=[(0,.one (.i .u64 (.x 0))),(1,.one (.i .u64 (.x 1))),(2,.one (.p 0 0))]
def G9:List (FuncId×List SV×SV):=[(52,[.ag [.sl 16 17 18],.one (.i .u64 (.x 0)),.one (.i .u64 (.x 1))],.tu [.i .u64 (.x 2),.b (.x 0)])]
theorem tD{w w0:World}{b:Nat}{φ:Nat→Prop}{e:SlE}(hE:dB w0 b φ e w)(h0:w0.heap.size≤w.heap.size){size al:Nat}(Z:size<lim)(L:size%4096=0)(v:al=4096∨al=2097152):
 Calls Tryz.prog 51 #[.int .u64 size,.int .u64 al,.pointer (some ⟨b,0,none⟩)] w fun J w'=>J=.returned (Al (fit φ size al))∧aD (fun g=>g=b) w w'∧∃e',dB w0 b (match fit φ size al with|some p=>off φ p size|none=>φ) e' w'∧(e'=e∨∀g o,e'.A=some ⟨g,o,none⟩→0<e'.n→w.heap.size≤g):=by
 obtain⟨R,C⟩:∃R:Ending→World→Prop,R=fun J w'=>J=.returned (Al (fit φ size al))∧aD (fun g=>g=b) w w'∧∃e',dB w0 b (match fit φ size al with|some p=>off φ p size|none=>φ) e' w'∧(e'=e∨∀g o,e'.A=some ⟨g,o,none⟩→0<e'.n→w.heap.size≤g):=⟨_,rfl⟩
 rw[←C];obtain⟨H,l,r2,V,r4,I,W⟩:=hE;have hφ:aW l=φ:=funext fun q=>propext (W q)
 have d:=fun{w'} (hk:Kz w w')=>CM (V.keep hk) I Z v
 rw[hφ]at d;obtain⟨o,Y⟩:∃o,o=fit φ size al:=⟨_,rfl⟩;simp only[←Y]at d C;have hb:=H.lt;refine fnE (l1S e size al o) (fun _=>(b,0)) [.one (.i .u64 (.x 0)),.one (.i .u64 (.x 1)),.one (.p 0 0)] Tryz.func51 Tryz.ntmps51 rfl rfl ψ H0 (fun _ h=>h.elim) trivial fun a X hh=>?_
 have n0:Now (l1S e size al o) (fun _=>(b,0)) 24 Tryz.prog {} H0 ⟨l1R,[],1,[]⟩ a w:=⟨hh.has,hh.mem,hh.ctx,hh.tb,hh.gh⟩;have n1:=(n0.row 0 [.sl 16 17 18] rfl H).more [] G9 [] dg (fun y O w' D=>by
  obtain rfl:=ρ.1 O;exact d D) (fun i x N=>by cases N)
 refine b7 3 τ ([(7,.one (.i .u64 (.x 2))),(8,.one (.b (.x 0))),(16,.one (.b (.x 0)))]++l1R) [(0,[.sl 16 17 18])] 1 [] hPp δ n1 fun κ2 a2 w2 E j=>?_
 have k2:κ2 0=(b,0):=j.upto 0 ψ
 cases hok:o with
 | none =>
  subst hok;refine cG false E rfl rfl (fZ ?_);refine dU 2 τ [(5,.one (.i .u64 (.x 2))),(6,.one (.b (.x 0)))] [] 1 [] hPp δ E fun κ3 a3 w3 Q p3=>?_
  refine jP rfl Q.has rfl rfl (p3.agree.defers.trans (j.agree.defers.trans X)) ?_;rw[C];have hk:Kz w w3:=j.keep.trans p3.keep fun _ _ h=>h
  exact⟨rfl,hk.mono fun _ _ h=>h.elim,e,dB.keep hk ⟨H,l,r2,V,r4,I,W⟩,.inl rfl⟩
 | some p =>
  subst hok;have hL:=fE.1 Y.symm;have u:p<lim∧p%4096=0:=by
   obtain⟨q1,⟨q2,q3⟩,_⟩:=hL;have:=q3 p (Γ _) χ;rw[←hφ]at this;obtain⟨s,K,ac,ad⟩:=this;have:=(I.QW s K).2.2;obtain⟨c,rfl⟩:=q2;refine⟨by unfold lim;omega,?_⟩
   rcases v with rfl|rfl<;>omega
  refine cG true E rfl rfl ?_;have Q:=(E.lay 24 (sp2 (cS p size)) δ).more [] [(54,[.one (.i .u64 (.x 2)),.one (.i .u64 (.x 0))],.ag [.i .u64 (.x 24),.i .u64 (.x 25)])] [] dg (fun y O w' D=>by
   obtain rfl:=ρ.1 O;exact rf p size u.1 Z w') (fun i x N=>by cases N)
  refine Be 4 53 0 (.ag [.sl 16 17 18]) (.ag [.i .u64 (.x 24),.i .u64 (.x 25)]) ([(17,.ag [.sl 16 17 18]),(20,.ag [.i .u64 (.x 24),.i .u64 (.x 25)]),(7,.one (.i .u64 (.x 2))),(8,.one (.b (.x 0)))]++l1R) (off φ p size) w b hPp δ Q k2 ⟨_,H.keep j.keep (fun h=>h)⟩ j.keep.size (fun w' D=>?_) fun a4 w4 f4 g4 k4 d4=>?_
  ·refine(ml (V.keep (j.keep.trans D fun _ _ h=>h)) I (qu u.2 L u.1)).mono fun e2 af ⟨u2,l2,z1,z2,z3,z4,z5,z6⟩=>⟨u2,l2,z1,z2,z3,z4,fun q=>(z5 q).trans ?_,z6⟩
   unfold off;rw[←W,←rd]
  ·refine dU 2 τ [(5,.one (.i .u64 (.x 2))),(6,.one (.b (.x 0)))] [] 1 [] hPp δ (f4.now (P:=Tryz.prog) 1 w4) fun κ5 a5 w5 n5 U=>?_
   refine jP rfl n5.has rfl rfl (U.agree.defers.trans (d4.trans (j.agree.defers.trans X))) ?_;rw[C];obtain⟨e',B⟩:=g4.e;exact⟨rfl,((j.keep.mono fun _ _ h=>h.elim).trans k4 fun _ _ h=>h).trans (U.keep.mono fun _ _ h=>h.elim) fun _ _ h=>h,e',(B.keep U.keep).mono h0,.inr B.fresh⟩
end Rs
namespace Rs
open Go.RowKit Ck
variable {w0 w w':World} {b:Nat}
def vM(u:Value)(im:Nat)(pg:Int):Value := .agg #[u,.int .u64 im,.int .i64 pg]
def Ci(w0:World)(P:aF)(ok:Bool)(pg:Nat)(en:Ending)(w:World):Prop:=
 (match ok with
  | false=>en=.returned (.tuple #[vM (.slice none 0 0) 0 0,.int .i64 (-1),.int .i64 1])
  | true=>match dQ P pg with
   | (none,n,e)=>en=.returned (.tuple #[vM (.slice none 0 0) 0 0,.int .i64 n,.int .i64 e])
   | (some l,n,e)=>∃u,en=.returned (.tuple #[vM u l.image l.pages,.int .i64 n,.int .i64 e])∧w.ownsRow w0.heap.size 41 1 u l.Q3.length (l.Q3.map fun(x:Nat)=>Value.int .u64 x)∧∀x∈l.Q3,x<lim)∧Kz w0 w
def zL:List Cl:=[.l (.slice none 0 0),.i .u64 (.c 0),.i .i64 (.c 0)]
def tw(a x:Int):Sta where
 i j:=match j with|0=>a|_=>x
theorem AS{m n:Nat}(h:m≤n):∀j,lo m j=true→lo n j=true:=fun j d=>by
 have:=ω d;exact Nat.ble_eq_true_of_le χ
def fnD(b pg:Nat):Sta where
 o _ := .func (.func 51) #[] #[.pointer (some ⟨b,0,none⟩)]
 i _:=pg
def GB:Kn:={ KO:=[(26,[(7,.one (.p 2 0))],.one (.v 40))] }
def lyR:Fr:=[(32,.one (.i .i64 (.ln 2))),(31,.one (.sl 2 2 14)),(1,.one (.p 0 0)),(2,.one (.p 1 0)),(7,.one (.p 2 0)),(8,.one (.v 40)),(9,.one (.p 3 0))]
theorem dB.other{φ:Nat→Prop}{e:SlE}{T:Nat→Prop}(h:dB w0 b φ e w)(hk:aD T w w')(J:¬ T b)(K:∀g o,e.A=some ⟨g,o,none⟩→0<e.n→¬ T g):dB w0 b φ e w':=by
 obtain⟨C,l,D,E,H,I⟩:=h;have x:au w' (.slice e.A e.n e.c) l:=by
  obtain⟨A,c,d,N,O,Q⟩:=E;refine⟨A,c,d,N,O,fun u=>?_⟩;obtain⟨g,j,R,U⟩:=Q u;have e3:e.A=A:=by
   have:=congrArg (fun v=>match v with|Value.slice A _ _=>A|_=>none) d;exact this
  exact⟨g,j,Θ R hk.size,U.keep hk (K g 0 (e3.trans j) χ)⟩
 refine⟨C.keep hk J,l,D,x,fun q L=>aJ.other x.Q7 fun u g n c y B=>?_,I⟩;obtain⟨A,c2,d,_,_,j⟩:=H q L;obtain⟨V,e3,_,e4,_⟩:=j u;rw[d,e3]at y
 cases y
 exact e4 B
theorem dB.lt{φ:Nat→Prop}{e:SlE}(h:dB w0 b φ e w):∀g o,e.A=some ⟨g,o,none⟩→0<e.n→g<w.heap.size:=fun g o y J=>by
 obtain⟨D,l,E,u,H,I⟩:=h;obtain⟨A,c,d,K,L,B⟩:=u;obtain⟨q,j,N,O⟩:=B χ;rw[y,j]at d;have C:g=q:=by
  have:=congrArg (fun v=>match v with|Value.slice (some x) _ _=>x.block|_=>0) d;exact this
 omega
theorem Now.sub{S:Sta}{κ:Kap}{N:Nat}{P:Program}{C:Ctx}{H:Gh}{F:Fr}{M:Mm}{k:Nat}{d:List Nat}{a:Act}(h:Now S κ N P C H ⟨F,M,k,d⟩ a w){F':Fr}(g:gJ F F'=true):Now S κ N P C H ⟨F',M,k,d⟩ a w:=⟨h.has.sub g,h.mem,h.ctx,h.tb,h.gh⟩
structure LyE where
 f:SlE
 S:PS
 out:List Nat
 oA:Option Addr
 oC:Nat
def lyD(e:LyE):Sta where
 a j:=match j with|0=>e.f.A|_=>e.oA
 n j:=match j with|0=>0|1=>e.f.n|2=>e.f.c|3=>e.out.length|_=>e.oC
structure LyB (w0:World) (b z Z pg:Nat) (e:LyE) (w:World):Prop where
 free:dB w0 b e.S e.f w
 nz:∀g o,e.f.A=some ⟨g,o,none⟩→0<e.f.n→g≠z∧(Value.slice e.oA e.out.length e.oC).ownBlock≠some g
 row:Row w z [.slice e.oA e.out.length e.oC,.int .u64 0,.int .i64 pg]
 own:w.ownsRow Z 41 1 (.slice e.oA e.out.length e.oC) e.out.length (e.out.map fun(x:Nat)=>Value.int .u64 x)
 lim:∀x∈e.out,x<lim
theorem LyB.keep{z Z pg:Nat}{e:LyE}(hk:Kz w w')(h:LyB w0 b z Z pg e w):LyB w0 b z Z pg e w':=⟨h.free.keep hk,h.nz,h.row.keep hk id,aK h.own hk (fun _ _ h=>h),h.lim⟩
structure LyW (w0:World) (b z Z pg:Nat) (P:aF) (k:Nat) (e:LyE) (w:World):Prop where
 box:LyB w0 b z Z pg e w
 lay:fH (ay P) [] P.Q3=fH e.S e.out (P.Q3.drop k)
 len:e.out.length=k
theorem LyB.bump{z Z pg:Nat}{e:LyE}{d:SlE}{S':PS}(h:LyB w0 b z Z pg e w)(hk:aD (fun g=>g=b) w w')(l:b≠z)(x:b<Z)(y:dB w0 b S' d w')(u:d=e.f∨∀g o,d.A=some ⟨g,o,none⟩→0<d.n→w.heap.size≤g):LyB w0 b z Z pg { e with f:=d,S:=S' } w':=by
 refine⟨y,fun g o v j=>?_,h.row.keep hk fun e=>l e.symm,aK h.own hk fun k q e=>?_,h.lim⟩
 ·rcases u with rfl|u
  ·exact h.nz g o v j
  ·have B:=u g o v j
   have:=h.row.lt;refine⟨χ,fun e=>?_⟩;have:=(h.own.lt g e).2;omega
 ·have:=h.own.lt k q
  omega
def ryD(r:Nat)(ok:Bool)(al:Nat):Sta where
 i j:=match j with|0=>r|_=>al
 b _:=ok
def EU:List (FuncId×List SV×SV):=[(55,[.ag (nK 56)],.one (.i .u64 (.x 81)))]
def G7:List (FuncId×List SV×SV):=[(51,[.one (.i .u64 (.x 57)),.one (.i .u64 (.x 81)),.one (.p 2 0)],.tu [.i .u64 (.x 80),.b (.x 80)])]
def lyJ:Fr:=[(10,.one (.i .i64 (.x 48))),(12,.one (.i .u64 (.x 80))),(13,.one (.b (.x 80)))]
def lyT(b z g:Nat):Prop:=g=b∨g=z
def lyF:Fr:=[(11,.one (.p 5 0)),(10,.one (.i .i64 (.x 48))),(12,.one (.i .u64 (.x 58))),(13,.one (.b (.c true))),(42,.one (.b (.not (.x 56))))]
theorem CE{B:Nat}{w:World}{v:ae}{P:aF}(h:bD B w v P)(hB:B≤w.heap.size){ok:Bool}{pg:Nat}
 (fr:∀w',Kz w w'→Calls Tryz.prog 10 #[.agg (v.cells P).toArray] w' fun e bf=>(∃a x:Int,e=.returned (.tuple #[.int .i64 a,.int .i64 x])∧(x=0↔ok=true))∧Kz w' bf)
 (f3:∀w',Kz w w'→Calls Tryz.prog 23 #[.agg (v.cells P).toArray] w' fun e bf=>e=.returned (.int .i64 pg)∧Kz w' bf)(D:ok=true→BM P)(eb:ok=true→pg≤1073741824):
 Calls Tryz.prog 16 #[.agg (v.cells P).toArray] w (Ci w P ok pg):=by
 obtain⟨R,hR⟩:∃R:Ending→World→Prop,R=Ci w P ok pg:=⟨_,rfl⟩;rw[←hR];have g2:P.Q3.length≤2097152:=by obtain⟨_,_,_,_,hl,_⟩:=h.Q3;exact hl
 refine fnE (cE v P) (fun _=>(0,0)) [.ag ah] Tryz.func16 Tryz.ntmps16 rfl (by rw[List.map_cons,bT h (Agr.refl _ _)];rfl) ψ H0 (fun _ h=>h.elim) trivial fun a hd hh=>?_
 refine fb (CL:={}) τ [(1,.one (.p 0 0)),(2,.one (.p 1 0)),(3,.one (.i .i64 (.c 0))),(4,.one (.i .i64 (.c 0)))] [(0,ah),(1,zL)] 2 [] δ hh dV fun W a1 w1 n1 p1=>?_
 obtain⟨x1,x2,x3⟩:=p1.new.row n1.mem (r:=1) rfl ψ ψ;refine sF 1 10 [.ag ah] (.tu [.i .i64 (.x 24),.i .i64 (.x 25)]) 24 (fun d _=>∃a x,d=tw a x∧(x=0↔ok=true)) τ [(1,.one (.p 0 0)),(2,.one (.p 1 0)),(6,.one (.i .i64 (.x 25)))] [(0,ah),(1,zL)] 2 δ n1 (fun w' bc=>?_) fun κ2 a2 w2 d wt ⟨xa,xe,fv,ee⟩ kt n2 p2=>?_
 ·rw[List.map_cons,bT h (Agr.refl _ _)]
  exact(fr w' (p1.keep.trans bc fun _ _ h=>h)).mono fun e bf ⟨⟨a,x,e1,e2⟩,e3⟩=>⟨_,⟨a,x,rfl,e2⟩,e1,e3⟩
 subst fv
 cases hok:ok with
 | false =>
  subst hok;have f2:xe≠0:=fun e=>by have:=ee.1 e;cases this
  refine b7 1 τ [(2,.one (.p 1 0)),(22,.one (.b (.cmp .neq (.x 25) (.c 0))))] [(1,zL)] 2 [] hPp δ n2 fun κ3 a3 Q n3 p3=>?_
  refine cG true n3 rfl (show(xe !=0)=true by simpa using f2) ?_;have xz:=(x1.keep p2.keep (fun h=>h)).keep p3.keep (fun h=>h);have ei:κ3 1=W 1:=(p3.upto 1 ψ).trans (p2.upto 1 ψ);refine lr (CL:={}) 1 1 [] τ [(2,.one (.p 1 0)),(3,.one (.i .i64 (.c (-1)))),(4,.one (.i .i64 (.c 1)))] [(1,zL)] 2 [] δ n3 dV (fun _=>by rw[ei];exact xz.some) (fun _ h=>by cases h) (fun _ _ _ _ _ _ _=>trivial) fun κ4 a4 w4 n4 u4 k4 g4 _ _=>kB ?_
  refine rG (t:=2) (r:=1) (E:=56) (v := .ag zL) rfl n4.has rfl δ rfl rfl n4.mem.f (g4.defers.trans (p3.agree.defers.trans (p2.agree.defers.trans (p1.agree.defers.trans hd)))) ?_;rw[hR];refine⟨rfl,?_⟩;exact aS ((p1.keep.trans p2.keep fun _ _ h=>h).trans p3.keep fun _ _ h=>h) k4 fun g D=>by
   rcases D with D|D
   ·exact D.elim
   ·rw[D,u4 1 ψ,ei];exact x3
 | true =>
  subst hok;have hz:xe=0:=ee.2 rfl;refine b7 1 τ [(1,.one (.p 0 0)),(2,.one (.p 1 0)),(22,.one (.b (.cmp .neq (.x 25) (.c 0))))] [(0,ah),(1,zL)] 2 [] hPp δ n2 fun κ3 a3 Q n3 p3=>?_
  refine cG false n3 rfl (show(xe !=0)=false by simp[hz]) (fZ ?_);have D:=D rfl;have eb:=eb rfl;have b6:Kz w Q:=(p1.keep.trans p2.keep fun _ _ h=>h).trans p3.keep fun _ _ h=>h
  refine sF 1 50 [.ag ah] (.ag [.sl 32 33 34]) 32 (fun d w4=>∃e:SlE,d=slD e∧∃l,e.n=l.length∧au w4 (.slice e.A e.n e.c) l∧(∀q,q<Q.heap.size→aJ w4 q (.slice e.A e.n e.c) l)∧dP l∧∀q,aW l q↔ay P q) τ [(1,.one (.p 0 0)),(2,.one (.p 1 0)),(7,.one (.p 2 0))] [(0,ah),(1,zL),(2,[.sl 32 33 34])] 3 δ n3 (fun w' bc=>?_) fun κ4 a4 w4 d wf ⟨e0,fs,l0,l1,l2,l3,l4,l5⟩ er n4 p4=>?_
  ·rw[List.map_cons,bT h (aQ _ 24 _)]
   have hk:=K3 b6 bc;refine(tR (bD.kept h hB hk) (by have:=hk.size;omega) D).mono fun e bf ⟨u,l,y1,y2,y3,y4,y5,y6⟩=>?_
   obtain⟨A',c',rfl,_⟩:=id y2;exact⟨_,⟨⟨A',l.length,c'⟩,rfl,l,rfl,y2,fun q U=>y3 q (by have:=bc.size;omega),y4,y5⟩,y1,y6⟩
  subst fs;obtain⟨y1,y2,y3⟩:=p4.new.row n4.mem (r:=2) rfl ψ ψ;obtain⟨b,hb⟩:∃b,b=(κ4 2).1:=⟨_,rfl⟩;rw[←hb]at y1 y3;have ej:κ4 2=(b,0):=Prod.ext hb.symm y2;have eu:Kz w w4:=b6.trans p4.keep fun _ _ h=>h
  have n5:=n4.lay 40 (fnD b pg) δ;refine fb (CL:=GB) τ [(1,.one (.p 0 0)),(2,.one (.p 1 0)),(7,.one (.p 2 0)),(8,.one (.v 40))] [(0,ah),(1,zL),(2,[.sl 32 33 34])] 3 [] δ n5 ⟨(fun _ h=>by cases h),fun x hx o ho hd a w ha=>by
   obtain rfl:=ρ.1 hx;have h7:a.eval (.tmp 7)=.pointer (some ⟨(κ4 2).1,(κ4 2).2+0,none⟩):=ha _ (ρ.2 rfl);rw[ej]at h7;rw[sh (f:=51) (t:=7) (jZ (op := .makeFunc (.func 51) #[] #[.tmp 7]) rfl ho hd),h7];rfl⟩ fun κ5 a5 w5 n6 p5=>?_
  have n7:=n6.more [] [(23,[.ag ah],.one (.i .i64 (.x 40)))] [] dg (fun y hy w' hw=>by
   obtain rfl:=ρ.1 hy;rw[List.map_cons,bT h (((aQ _ 24 _).trans ((aQ _ 32 _).mono (AS ψ))).trans ((aQ _ 40 _).mono (AS ψ)))];exact f3 w' ((eu.trans p5.keep fun _ _ h=>h).trans hw fun _ _ h=>h)) (fun i x hx=>by cases hx)
  have gs:∀q∈[0,1,2],(κ5 q).1<w5.heap.size:=fun q U=>by
   rcases Ξ.1 U with rfl|U
   ·exact(n7.mem.get 0 _ rfl).1.1
   rcases Ξ.1 U with rfl|U
   ·exact(n7.mem.get 1 _ rfl).1.1
   obtain rfl:=ρ.1 U;exact(n7.mem.get 2 _ rfl).1.1
  refine lr (CL:={}) 4 3 [0,1,2] τ [(1,.one (.p 0 0)),(2,.one (.p 1 0)),(7,.one (.p 2 0)),(8,.one (.v 40)),(9,.one (.p 3 0))] [(0,ah),(1,zL),(2,[.sl 32 33 34]),(3,[.l (.slice none 0 0),.i .u64 (.c 0),.i .i64 (.x 40)])] 4 [] δ n7 dV (fun h=>absurd h ψ) (fun q U=>⟨gs q U,fun h=>absurd h ψ⟩) (fun _ _ _ _ _ _ _=>trivial) fun κ6 a6 w6 n8 u6 k6 g6 N6 z6=>?_
  obtain⟨z,hz⟩:∃z,z=(κ6 3).1:=⟨_,rfl⟩;have zn:=N6 3 ψ ψ;rw[←hz]at zn;have an:Kz w5 w6:=aS (aD.refl _ _) k6 fun g D=>by
   rcases D with D|D
   ·exact D.elim
   ·rw[D,←hz];exact zn.1.1
  have gr:Kz w w6:=(eu.trans p5.keep fun _ _ h=>h).trans an fun _ _ h=>h
  refine b7 1 τ ((33,.one (.i .i64 (.c 0)))::lyR) [(0,ah),(1,zL),(2,[.sl 32 33 34]),(3,[.l (.slice none 0 0),.i .u64 (.c 0),.i .i64 (.x 40)])] 4 [] hPp δ n8 fun X a7 w7 n9 p7=>?_
  have dt:X 2=(b,0):=(p7.upto 2 ψ).trans ((u6 2 ψ).trans ((p5.upto 2 ψ).trans ej));have bd:X 3=(z,0):=(p7.upto 3 ψ).trans (Prod.ext hz.symm zn.2.1);have N:X 1=W 1:=(p7.upto 1 ψ).trans ((u6 1 ψ).trans ((p5.upto 1 ψ).trans ((p4.upto 1 ψ).trans ((p3.upto 1 ψ).trans (p2.upto 1 ψ)))));have bs:Kz w w7:=gr.trans p7.keep fun _ _ h=>h
  obtain⟨Z,hZ⟩:∃Z,Z=w7.heap.size:=⟨_,rfl⟩;have ec:w.heap.size≤b:=by have:=b6.size;omega
  have bm:Row w7 b [.slice e0.A e0.n e0.c]:=((y1.keep p5.keep (fun h=>h)).keep an (fun h=>h)).keep p7.keep (fun h=>h);have gy:Row w6 z [.slice none 0 0,.int .u64 0,.int .i64 pg]:=by
   have:=n8.mem.row (r:=3) rfl zn.2.1 z6;rw[←hz]at this;exact this
  have cu:=gy.keep p7.keep (fun h=>h);have bt:∀q,q<2→(X q).1<Q.heap.size:=fun q U=>by
   have e7:X q=κ3 q:=(p7.upto q (by show q<4;omega)).trans ((u6 q (by show q<3;omega)).trans ((p5.upto q (by show q<3;omega)).trans (p4.upto q U)));rw[e7]
   match q,U with
   | 0,_=>exact(n3.mem.get 0 _ rfl).1.1
   | 1,_=>exact(n3.mem.get 1 _ rfl).1.1
  have hc:Q.heap.size≤b∧b<z:=by
   refine⟨y3,?_⟩;have h1:=y1.lt;have h2:=p5.keep.size;have:=zn.1.1;omega
  have es:Kz wf w7:=((er.trans p5.keep fun _ _ h=>h).trans an fun _ _ h=>h).trans p7.keep fun _ _ h=>h
  have B0:LyB Q b z Z pg ⟨e0,ay P,[],none,0⟩ w7:=by
   refine⟨⟨bm,l0,l1,l2.keep es,fun q U=>aJ.keep (l3 q U) (es.mono fun _ _ h=>h.elim),l4,l5⟩,fun g o D hn=>?_,cu,World.ownsRow_nil _ _ _ _,fun x hx=>by cases hx⟩;obtain⟨A,c,e1,_,_,e2⟩:=l2;have hn:0<e0.n:=hn;obtain⟨g',e3,e4,_⟩:=e2 χ;have D:e0.A=some ⟨g,o,none⟩:=D;rw[D,e3]at e1;have e6:g=g':=by
    have:=congrArg (fun v=>match v with|Value.slice (some x) _ _=>x.block|_=>0) e1;exact this
   have h1:=er.size;have h2:=p5.keep.size;have:=zn.1.1;exact⟨χ,fun e=>by cases e⟩
  have d0:=n9.mute (Gh.of (lyT b z) (fun _=>True) (fun _ _ _ _=>trivial)) [(0,ah),(1,zL)] [] δ (fun r l hl e=>by
   have hr:r<2:=by
    rw[cL]at hl;split at hl
    ·omega
    ·rw[cL]at hl
     split at hl
     ·omega
     ·cases hl
   have:=bt r hr
   rcases(show(X r).1=b∨(X r).1=z from e)with e|e<;>omega) (fun g D=>by
   rcases D with rfl|rfl
   ·exact bm.lt
   ·exact cu.lt) trivial
  refine az (ow d0 P.Q3.length 48 33 2 lyR τ lyD (fun k e w=>LyW Q b z Z pg P k e w) (fun _ _ _ _ hk h=>⟨h.box.keep hk,h.lay,h.len⟩) ⟨e0,ay P,[],none,0⟩ hPp δ rfl χ ⟨B0,rfl,rfl⟩ (d0.has.re ⟨rfl,rfl,rfl,rfl,rfl,rfl,rfl,rfl,trivial⟩) (fun k e a8 w8 hk ca hA hK=>?_) fun e a8 w8 ca hA hK=>?_)
  ·obtain⟨x,hx⟩:=ge hk
   obtain⟨Y,bp,cf⟩:=(show LyW Q b z Z pg P k e w8 from ca.gh);have ac:aD (lyT b z) w7 w8:=hK;have b0:∀g,lyT b z g→w.heap.size≤g:=fun g D=>by
    have:=b6.size
    rcases D with rfl|rfl<;>omega
   have fm:Kz w w8:=aS bs ac b0;obtain⟨g,o,h1,h2,h3⟩:=cW h.Q3 (aI _ _ _) hB fm hx;have he:g<w.heap.size:=by
    obtain⟨g',o',d9,fl,_⟩:=cW h.Q3 (aI _ _ _) hB (aD.refl (fun _=>False) w) hx;rw[h1]at d9
    cases d9
    exact fl
   obtain⟨κ9,u9,d1⟩:=ca.elem (j:=2) (x:=ly x) (cl:=nK 56) h1 ⟨h2,fun e=>by have:=b0 g e;omega⟩ hk h3.1 rfl δ;refine aY (b7 3 τ (lyF++fx 48 33 lyR) [(1,zL),(5,nK 56)] 6 [] hPp δ d1 fun H c7 L a0 cd=>?_);have ed:=h3.2;have gc:=D.reg x (γ hx);have dk:∀r,r<4→H r=X r:=fun r hr=>(cd.upto r (by show r<5;omega)).trans (u9 r hr)
   have B10:LyB Q b z Z pg e L:=(show LyW Q b z Z pg P k e L from a0.gh).box;have fp:b<Z:=by rw[hZ];exact bm.lt
   have b1:P.Q3.drop k=x::P.Q3.drop (k+1):=by
    obtain⟨f0,f1⟩:=ο.1 hx;rw[List.drop_eq_getElem_cons f0,f1]
   have d3:c7.defers=[]:=cd.agree.defers.trans (hA.defers.trans (p7.agree.defers.trans (g6.defers.trans (p5.agree.defers.trans (p4.agree.defers.trans (p3.agree.defers.trans (p2.agree.defers.trans (p1.agree.defers.trans hd))))))));obtain⟨J,hJ⟩:∃J:Act→World→Prop,J=fun a' w'=>∃(κ':Kap) (e':LyE) (r:Nat) (cs:Bool) (al:Nat),cU 4 X κ'∧e'.out=e.out∧Has ((((cE v P).put 24 (tw xa xe)).put 32 (slD e0) |>.put 40 (fnD b pg) |>.put 48 ((lyD e').cnt k)).put 80 (ryD r cs al)) κ' 78 (lyJ++fx 48 33 lyR) a'∧LyB Q b z Z pg e' w' ∧
    (match cs with|true=>r<lim∧∀t,fH e.S e.out (x::t)=fH e'.S (e.out++[r]) t|false=>∀t,fH e.S e.out (x::t)=.inl e.out.length)∧a'.defers=[]∧aD (lyT b z) w7 w':=⟨_,rfl⟩
   refine CY 1 J ?_ fun c8 V hj=>?_
   ·cases hfx:x.fixed with
    | true =>
     refine cG false a0 rfl (show(!x.fixed)=false by rw[hfx];rfl) (fZ ?_);refine⟨rfl,?_⟩;rw[hJ];refine⟨H,e,x.Q7,true,0,dk,rfl,?_,B10,⟨ed.2.2.1,fun t=>by rw[fH,if_pos hfx]⟩,d3,ac.trans (show aD (lyT b z) w8 L from cd.keep) fun _ _ h=>h⟩;exact a0.has.re ⟨rfl,rfl,rfl,rfl,rfl,rfl,rfl,rfl,rfl,rfl,rfl,trivial⟩
    | false =>
     refine cG true a0 rfl (show(!x.fixed)=true by rw[hfx];rfl) ?_;obtain⟨o,ho⟩:∃o,o=fit e.S x.size (cX x.big):=⟨_,rfl⟩;have f6:cX x.big=4096∨cX x.big=2097152:=by unfold cX;cases x.big<;>simp
     obtain⟨S',dc⟩:∃S':PS,S'=o.elim e.S fun p=>off e.S p x.size:=⟨_,rfl⟩
     have c3:H 2=(b,0):=(dk 2 ψ).trans dt;have bb:=((a0.lay 80 (ryD (o.getD 0) o.isSome (cX x.big)) δ).setH (Gh.two (lyT b z) (fun w=>LyB Q b z Z pg e w) (fun w=>∃f',LyB Q b z Z pg { e with f:=f',S:=S' } w) (fun _ _ hk h=>h.keep hk) (fun _ _ hk ⟨f',h⟩=>⟨f',h.keep hk⟩)) (fun _=>Iff.rfl) [] B10).more [] EU [] dg (fun y hy w' hw=>by
      obtain rfl:=ρ.1 hy;exact yr x w') (fun i x hx=>by cases hx)
     refine EF (C:={ CT:=EU,ET:=G7 }) (CL:={ CL:=[(40,51,[.one (.p 2 0)])] }) 49 0 τ (lyJ++fx 48 33 lyR) [(1,zL)] 6 hPp δ bb ⟨fun y hy=>by
      obtain rfl:=ρ.1 hy;show Value.func (.func 51) #[] #[.pointer (some ⟨b,0,none⟩)]=.func (.func 51) #[] #[.pointer (some ⟨(H 2).1,(H 2).2+0,none⟩)];rw[c3],fun _ h=>by cases h⟩ (fun y hy w' hw D=>?_) fun c8 V be ez=>?_
     ·obtain rfl:=ι hy
      have D:LyB Q b z Z pg e w':=D;have:=tD D.free (by
       have:=ac.size;have:=hw.size;have:=(show aD (lyT b z) w8 L from cd.keep).size;have:=bs.size;have:Q.heap.size≤w7.heap.size:=(((p4.keep.trans p5.keep fun _ _ h=>h).trans an fun _ _ h=>h).trans p7.keep fun _ _ h=>h).size;omega) ed.2.1 gc.1 f6
      rw[←ho]at this;show Calls Tryz.prog 51 #[.int .u64 x.size,.int .u64 (cX x.big),.pointer (some ⟨(H 2).1,(H 2).2+0,none⟩)] w' _;rw[c3];refine this.mono fun en bf ⟨q1,q2,f',q3,q4⟩=>⟨q1,q2.mono fun g _ h =>.inl h,f',D.bump q2 χ fp ?_ q4⟩
      rw[dc];clear dc this bb ho
      revert q3
      cases o<;>exact id
     ·refine⟨rfl,?_⟩
      rw[hJ];obtain⟨f',fz⟩:=(show ∃f',LyB Q b z Z pg { e with f:=f',S:=S' } V from be.gh);refine⟨H,{ e with f:=f',S:=S' },o.getD 0,o.isSome,cX x.big,dk,rfl,?_,fz,?_,ez.agree.defers.trans d3,(ac.trans (show aD (lyT b z) w8 L from cd.keep) fun _ _ h=>h).trans (show aD (lyT b z) L V from ez.keep) fun _ _ h=>h⟩
      ·exact be.has.re ⟨rfl,rfl,rfl,rfl,rfl,rfl,rfl,rfl,rfl,rfl,rfl,trivial⟩
      ·cases hoo:o with
       | none =>
        subst hoo;intro t;rw[fH,if_neg (by rw[hfx];simp),←ho]
       | some p =>
        subst hoo;refine⟨?_,fun t=>?_⟩
        ·obtain⟨q1,⟨q2,q3⟩,_⟩:=fE.1 ho.symm
         obtain⟨_,l9,_,_,_,s5,s6⟩:=B10.free;obtain⟨s,f5,hm,hp⟩:=(s6 p).2 (q3 p (Γ _) χ);have:=(s5.QW s f5).2.2;show p<lim;unfold lim;omega
        ·rw[fH,if_neg (by rw[hfx];simp),←ho,dc]
         rfl
   ·rw[hJ]at hj
    obtain⟨bw,e',r,cs,al,e8,b3,ff,B11,cj,d4,b5⟩:=hj;have I:bw 1=W 1:=(e8 1 ψ).trans N;have ad:¬ lyT b z (W 1).1:=fun D=>by
     have h1:=bt 1 ψ;rw[N]at h1
     rcases D with D|D<;>omega
    have rz:Row V (bw 1).1 [.slice none 0 0,.int .u64 0,.int .i64 0]:=by
     rw[I];have:Kz w1 w7:=((((((p2.keep.trans p3.keep fun _ _ h=>h).trans p4.keep fun _ _ h=>h).trans p5.keep fun _ _ h=>h).trans an fun _ _ h=>h).trans p7.keep fun _ _ h=>h));exact(x1.keep this (fun h=>h)).keep b5 ad
    have cb:=(ff.now (P:=Tryz.prog) 6 V).row 1 zL (by rw[I];exact x2) rz
    cases hok:cs with
    | false =>
     subst hok;refine b7 1 τ ((53,.one (.b (.not (.x 80))))::(lyJ++fx 48 33 lyR)) [(1,zL)] 6 [] hPp δ cb fun bx d2 cw cc O=>?_
     refine cG true cc rfl rfl ?_;have bg:bx 1=W 1:=(O.upto 1 ψ).trans I;refine lr (CL:={}) 2 1 [] τ [(2,.one (.p 1 0)),(3,.one (.i .i64 (.x 48))),(4,.one (.i .i64 (.c 110)))] [(1,zL)] 6 [] δ cc dV (fun _=>by rw[bg,←I];exact(rz.keep O.keep (fun h=>h)).some) (fun _ h=>by cases h) (fun _ _ _ _ _ _ _=>trivial) fun h4 g7 ht cp g1 gn fk _ _=>kB (bQ (bY ?_))
     refine rG (t:=2) (r:=1) (E:=56) (v := .ag zL) rfl cp.has rfl δ rfl rfl cp.mem.f (fk.defers.trans (O.agree.defers.trans d4)) ?_;rw[hR];have b2:dQ P pg=(none,(k:Int),110):=by
      unfold dQ;rw[bp,b1,cj,cf]
     refine⟨?_,?_⟩
     ·rw[b2]
      rfl
     ·refine aS (aS (aS bs b5 b0) O.keep fun _ h=>h.elim) gn fun g D=>?_
      rcases D with D|D
      ·exact D.elim
      ·rw[D,g1 1 ψ,bg];exact x3
    | true =>
     subst hok;obtain⟨f4,cj⟩:=cj;refine b7 1 τ ((53,.one (.b (.not (.x 80))))::(lyJ++fx 48 33 lyR)) [(1,zL)] 6 [] hPp δ cb fun bx d2 cw cc O=>?_
     refine cG false cc rfl rfl (fZ ?_);have B12:=B11.keep O.keep;have cm:∀q,q<4→bx q=X q:=fun q U=>(O.upto q (by show q<6;omega)).trans (e8 q U)
     have cp:=(((cc.sub (F':=lyJ++fx 48 33 lyR) δ).lay 88 { o:=fun _ =>.slice e'.oA e'.out.length e'.oC } δ).row 3 [.v 88,.i .u64 (.c 0),.i .i64 (.x 40)] (by rw[cm 3 ψ,bd]) (by rw[cm 3 ψ,bd];exact B12.row));have gf:z<Z:=by rw[hZ];exact cu.lt
     have hf:e'.out.length≤2097152:=by rw[b3,cf];omega
     refine EJ (z:=Z) (n:=e'.out.length) (size:=1) (bytes:=8) (e:=41) (v := .slice e'.oA e'.out.length e'.oC) (zb:=z) (us:=[.int .u64 0,.int .i64 pg]) (xs:=e'.out.map fun(x:Nat)=>Value.int .u64 x) (ys:=[.int .u64 r]) 3 54 88 (.one (.i .u64 (.x 80))) 96 3 (fx 48 33 lyR) δ cp ⟨δ,δ,ψ,ψ⟩ rfl B12.own (by rw[hZ];have:=b5.size;have:=O.keep.size;omega) rfl rfl (fun u hu=>by obtain rfl:=ρ.1 hu;rfl) (by unfold maxLen;omega) χ ((cm 3 ψ).trans bd) B12.row (fun e=>by have:=(B12.own.lt z e).1;omega) fun v' g8 e9 ey gx eg fc d7 fe=>cM rfl ?_
     obtain⟨g',bz,f7,_⟩:=ey.form χ;subst f7;have f9:Z≤cw.heap.size:=by rw[hZ];have:=b5.size;have:=O.keep.size;omega
     have cy:(e.out++[r]).length=e'.out.length+1:=by rw[b3];simp
     refine⟨⟨e'.f,e'.S,e.out++[r],some ⟨g',0,none⟩,bz⟩,bx,⟨⟨B12.free.other eg (fun hh=>?_) (fun g o D hn hh=>?_),fun g o D hn=>⟨(B12.nz g o D hn).1,fun eo=>?_⟩,?_,?_,fun y hy=>?_⟩,?_,?_⟩,cm,d7.re ⟨rfl,rfl,rfl,rfl,rfl,rfl,rfl,rfl,trivial⟩,⟨d7.size.trans d0.has.size.symm,?_,fun _ h=>by cases h⟩,?_⟩
     ·rcases hh with hh|hh
      ·have:=(B12.own.lt b hh).1;omega
      ·omega
     ·obtain⟨m1,m2⟩:=B12.nz g o D hn
      rcases hh with hh|hh
      ·exact m2 hh
      ·exact m1 hh
     ·rcases fc g eo with hh|hh
      ·exact(B12.nz g o D hn).2 hh
      ·have:=B12.free.lt g o D hn
       omega
     ·show Row e9 z [.slice (some ⟨g',0,none⟩) (e.out++[r]).length bz,.int .u64 0,.int .i64 pg]
      rw[cy];exact gx
     ·show e9.ownsRow Z 41 1 (.slice (some ⟨g',0,none⟩) (e.out++[r]).length bz) (e.out++[r]).length ((e.out++[r]).map fun(x:Nat)=>Value.int .u64 x)
      rw[cy,List.map_append,←b3];exact ey
     ·rcases Ω.1 hy with hy|hy
      ·exact Y.lim y hy
      ·obtain rfl:=ρ.1 hy;exact f4
     ·rw[bp,b1,cj]
     ·show(e.out++[r]).length=k+1
      rw[List.length_append,cf];rfl
     ·exact(fe.trans (O.agree.defers.trans d4)).trans (p7.agree.defers.trans (g6.defers.trans (p5.agree.defers.trans (p4.agree.defers.trans (p3.agree.defers.trans (p2.agree.defers.trans (p1.agree.defers.trans hd))))))).symm
     ·exact(b5.trans (K_T O.keep) fun _ _ h=>h).trans eg fun g D hh=>by
       rcases hh with hh|hh
       ·have:=(B12.own.lt g hh).1;omega
       ·exact .inr hh
  ·obtain⟨Y,bp,cf⟩:=(show LyW Q b z Z pg P P.Q3.length e w8 from ca.gh)
   rw[List.drop_length,fH]at bp;have ac:aD (lyT b z) w7 w8:=hK;have b0:∀g,lyT b z g→w.heap.size≤g:=fun g D=>by
    have:=b6.size
    rcases D with rfl|rfl<;>omega
   have gf:z<Z:=by rw[hZ];exact cu.lt
   have ad:¬ lyT b z (W 1).1:=fun D=>by
    have h1:=bt 1 ψ;rw[N]at h1
    rcases D with D|D<;>omega
   have rz:Row w8 (X 1).1 [.slice none 0 0,.int .u64 0,.int .i64 0]:=by
    rw[N];have:Kz w1 w7:=((((((p2.keep.trans p3.keep fun _ _ h=>h).trans p4.keep fun _ _ h=>h).trans p5.keep fun _ _ h=>h).trans an fun _ _ h=>h).trans p7.keep fun _ _ h=>h));exact(x1.keep this (fun h=>h)).keep ac ad
   have d8:a8.defers=[]:=hA.defers.trans (p7.agree.defers.trans (g6.defers.trans (p5.agree.defers.trans (p4.agree.defers.trans (p3.agree.defers.trans (p2.agree.defers.trans (p1.agree.defers.trans hd)))))));have d1:=((ca.has.now (P:=Tryz.prog) 4 w8).row 1 zL (by rw[N];exact x2) rz).row 3 [.sl 49 51 52,.i .u64 (.c 0),.i .i64 (.x 40)] (by rw[bd]) (by rw[bd];exact Y.row);obtain⟨o,ho⟩:∃o,o=fit e.S (pg*4096) 4096:=⟨_,rfl⟩;have g3:Q.heap.size≤w8.heap.size:=by
    have:=ac.size;have:Q.heap.size≤w7.heap.size:=(((p4.keep.trans p5.keep fun _ _ h=>h).trans an fun _ _ h=>h).trans p7.keep fun _ _ h=>h).size;omega
   refine EC (T2:=fun g=>g=b) 5 40 2 51 [.one (.i .u64 (.bin .mul .u64 (.cv .u64 (.x 40)) (.c 4096))),.one (.i .u64 (.c 4096))] [.one (.p 2 0)] (.tu [.i .u64 (.x 80),.b (.x 80)]) 80 (fun d _=>d=ryD (o.getD 0) o.isSome 0) τ [(2,.one (.p 1 0)),(9,.one (.p 3 0)),(14,.one (.i .u64 (.x 80))),(15,.one (.b (.x 80)))] [(1,zL),(3,[.sl 49 51 52,.i .u64 (.c 0),.i .i64 (.x 40)])] 4 δ d1 (fun r hr=>?_) (fun g D=>by rw[show g=b from D];exact Y.free.1.lt) ?_ (fun w' bc=>?_) fun κ9 a9 w9 d hv fy hs a0 u9 k9 g9=>?_
   ·have l0:=bt 0 ψ
    have l1:=bt 1 ψ
    match r,hr with
    | 0,_=>exact .inr fun e=>by have e:(X 0).1=b:=e;omega
    | 1,_=>exact .inr fun e=>by have e:(X 1).1=b:=e;omega
    | 2,_=>exact .inl rfl
    | 3,_=>exact .inr fun e=>by have e:(X 3).1=b:=e;rw[bd]at e;have e:z=b:=e;omega
   ·show Value.func (.func 51) #[] #[.pointer (some ⟨b,0,none⟩)]=.func (.func 51) #[] #[.pointer (some ⟨(X 2).1,(X 2).2+0,none⟩)]
    rw[dt]
   ·show Calls Tryz.prog 51 #[.int .u64 (IntKind.u64.wrap (IntKind.u64.wrap (pg:Int)*4096)),.int .u64 4096,.pointer (some ⟨(X 2).1,(X 2).2+0,none⟩)] w' _
    rw[dt,bq (x:=(pg:Int)) χ,bq χ,show((pg:Int)*4096)=((pg*4096:Nat):Int) by omega];have:=tD (Y.free.keep bc) (by have:=bc.size;omega) (size:=pg*4096) (al:=4096) (by unfold lim;omega) χ (.inl rfl);rw[←ho]at this;exact this.mono fun en bf ⟨q1,q2,_⟩=>⟨_,rfl,q1,q2⟩
   subst fy;have eq:κ9 1=W 1:=(u9 1 ψ).trans N;have go:κ9 3=(z,0):=(u9 3 ψ).trans bd;have ea:Kz w w8:=aS bs ac b0;have cx:Kz w w9:=aS ea k9 fun g D=>by rw[show g=b from D];exact ec
   cases hoo:o with
   | none =>
    subst hoo;refine b7 1 τ [(73,.one (.b (.not (.x 80)))),(2,.one (.p 1 0))] [(1,zL)] 4 [] hPp δ a0 fun H c7 L bb K=>?_
    refine cG true bb rfl rfl ?_;have af:H 1=W 1:=(K.upto 1 ψ).trans eq;have bo:Row L (H 1).1 [.slice none 0 0,.int .u64 0,.int .i64 0]:=by
     rw[af,←N];exact(rz.keep k9 (fun e=>ad (.inl (by rw[←N];exact e)))).keep K.keep (fun h=>h)
    refine lr (CL:={}) 1 1 [] τ [(2,.one (.p 1 0)),(3,.one (.i .i64 (.c (-1)))),(4,.one (.i .i64 (.c 110)))] [(1,zL)] 4 [] δ bb dV (fun _=>bo.some) (fun _ h=>by cases h) (fun _ _ _ _ _ _ _=>trivial) fun bw c8 V be cv ds c9 _ _=>kB ?_
    refine rG (t:=2) (r:=1) (E:=56) (v := .ag zL) rfl be.has rfl δ rfl rfl be.mem.f (c9.defers.trans (K.agree.defers.trans (g9.defers.trans d8))) ?_;rw[hR];have b2:dQ P pg=(none, -1,110):=by
     unfold dQ;rw[bp];simp only;rw[←ho]
    refine⟨?_,?_⟩
    ·rw[b2];rfl
    ·refine aS (aS cx K.keep fun _ h=>h.elim) ds fun g D=>?_
     rcases D with D|D
     ·exact D.elim
     ·rw[D,cv 1 ψ,af];exact x3
   | some p =>
    subst hoo;refine b7 1 τ [(73,.one (.b (.not (.x 80)))),(2,.one (.p 1 0)),(9,.one (.p 3 0)),(14,.one (.i .u64 (.x 80)))] [(1,zL),(3,[.sl 49 51 52,.i .u64 (.c 0),.i .i64 (.x 40)])] 4 [] hPp δ a0 fun H c7 L bb K=>?_
    refine cG false bb rfl rfl (fZ ?_);have af:H 1=W 1:=(K.upto 1 ψ).trans eq;have b4:H 3=(z,0):=(K.upto 3 ψ).trans go;have g5:(W 1).1<Q.heap.size:=by rw[←N];exact bt 1 ψ
    have bo:Row L (W 1).1 [.slice none 0 0,.int .u64 0,.int .i64 0]:=by
     have:=(rz.keep k9 (fun e=>ad (.inl (by rw[←N];exact e)))).keep K.keep (fun h=>h)
     rwa[N]at this
    have c6:Row L z [.slice e.oA e.out.length e.oC,.int .u64 0,.int .i64 pg]:=(Y.row.keep k9 (fun h=>by have h:z=b:=h;omega)).keep K.keep (fun h=>h);refine lr (CL:={}) 2 3 [1] τ [(2,.one (.p 1 0)),(9,.one (.p 3 0))] [(1,zL),(3,[.sl 49 51 52,.i .u64 (.x 80),.i .i64 (.x 40)])] 4 [] δ bb dV (fun _=>by rw[b4];exact c6.some) (fun q U=>by
     obtain rfl:=ρ.1 U;rw[af,b4];exact⟨bo.lt,fun _ e=>by have e:(W 1).1=z:=e;omega⟩) (fun _ _ _ _ _ _ _=>trivial) fun bw c8 V be cv ds c9 _ h0=>?_
    have I:bw 1=W 1:=(cv 1 ψ).trans af;have c4:bw 3=(z,0):=(cv 3 ψ).trans b4;have bl:aD (fun g=>g=z) L V:=ds.mono fun g _ D=>by
     rcases D with D|D
     ·exact D.elim
     ·rw[c4]at D;exact D
    have e5:=bo.keep bl (fun h=>by have h:(W 1).1=z:=h;omega);refine lr (CL:={}) 1 1 [3] τ [(2,.one (.p 1 0)),(3,.one (.i .i64 (.c (-1)))),(4,.one (.i .i64 (.c 0)))] [(1,[.sl 49 51 52,.i .u64 (.x 80),.i .i64 (.x 40)])] 4 [] δ be dV (fun _=>by rw[I];exact e5.some) (fun q U=>by
     obtain rfl:=ρ.1 U;rw[I,c4];refine⟨?_,fun _ e=>by have e:z=(W 1).1:=e;omega⟩;have:=c6.lt;have:=bl.size;show z<_;omega) (fun _ _ _ _ _ _ _=>trivial) fun bx d2 cw cb g0 gl fi _ _=>kB ?_
    have bg:bx 1=W 1:=(g0 1 ψ).trans I;refine rG (t:=2) (r:=1) (E:=56) (v := .ag [.sl 49 51 52,.i .u64 (.x 80),.i .i64 (.x 40)]) rfl cb.has rfl δ rfl rfl cb.mem.f (fi.defers.trans (c9.defers.trans (K.agree.defers.trans (g9.defers.trans d8)))) ?_;rw[hR];have b2:dQ P pg=(some ⟨e.out,p,pg⟩, -1,0):=by
     unfold dQ;rw[bp];simp only;rw[←ho]
    have c5:aD (fun g=>g=(W 1).1) V cw:=gl.mono fun g _ D=>by
     rcases D with D|D
     ·exact D.elim
     ·rw[bg]at D;exact D
    refine⟨?_,?_⟩
    ·rw[b2]
     refine⟨.slice e.oA e.out.length e.oC,rfl,?_,Y.lim⟩;have o8:=Y.own;have di:∀k,(Value.slice e.oA e.out.length e.oC).ownBlock=some k→Z≤k:=fun k hk=>(o8.lt k hk).1
     have o9:=aK o8 k9 fun k hk h=>by have:=di k hk;have h:k=b:=h;have:=bm.lt;omega
     have gu:=aK o9 K.keep fun k hk h=>h
     have gw:=aK gu bl fun k hk h=>by have:=di k hk;have h:k=z:=h;omega
     have ew:=aK gw c5 fun k hk h=>by have:=di k hk;have h:k=(W 1).1:=h;have:=bs.size;have:Q.heap.size≤w7.heap.size:=(((p4.keep.trans p5.keep fun _ _ h=>h).trans an fun _ _ h=>h).trans p7.keep fun _ _ h=>h).size;omega
     refine⟨ew.1,?_⟩
     rcases ew.2 with q|⟨g,bz,fd,q1,q2,q3⟩
     ·exact .inl q
     ·exact .inr ⟨g,bz,fd,q1,by have:=bs.size;omega,q3⟩
    ·refine aS (aS (aS cx K.keep fun _ h=>h.elim) bl fun g D=>?_) c5 fun g D=>by rw[show g=(W 1).1 from D];exact x3
     rw[show g=z from D];omega
