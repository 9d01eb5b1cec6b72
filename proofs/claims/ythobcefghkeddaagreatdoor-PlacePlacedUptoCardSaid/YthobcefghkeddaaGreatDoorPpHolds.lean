import Derived.Test.YthobcefghkeddaaGreatDoorPl15
import Derived.Test.YthobcefghkeddaaGreatDoorNamedS
import Derived.Lib.LaidU8
import Derived.Deep.DeepWitnessRowRef
import Derived.Test.YthobcefghkeddaaGreatDoorCards
import Derived.Test.YthobcefghkeddaaGreatDoorTie
set_option maxRecDepth 100000
set_option linter.all false
set_option maxHeartbeats 4000000
namespace Go.Proofs.YthobcefghkeddaaGreatDoor
namespace Rs
open Go.RowKit Ck
variable {ok:Bool} {pg B:Nat} {w w':World}
structure LrE where
 A:Option Addr
 n:Nat
 c:Nat
 im:Nat
 pg:Int
 k:Int
 e:Int
def vO(k e:Int):LrE:=⟨none,0,0,0,0,k,e⟩
def lrD(x:LrE):Sta where
 i j:=match j with|0=>x.im|1=>x.pg|2=>x.k|_=>x.e
 a _:=x.A
 n j:=match j with|0=>x.n|_=>x.c
 o _ := .tuple #[nY (.slice x.A x.n x.c) x.im x.pg,.int .i64 x.k,.int .i64 x.e]
def lrL(m:Nat):List Cl:=[.sl m m (m+1),.i .u64 (.x m),.i .i64 (.x (m+1))]
def DU(m td t0 t1 t2:Nat):Kn:={ KO:=[(t0,[(td,.one (.v m))],.ag (lrL m)),(t1,[(td,.one (.v m))],.one (.i .i64 (.x (m+2)))),(t2,[(td,.one (.v m))],.one (.i .i64 (.x (m+3))))] }
theorem wi{S:Sta}{κ:Kap}{P:Program}{ops:List Oper}{m g B C t2:Nat}(x:LrE)(I:((ops.filter fun o=>o.dst==some B).map (·.op))=[.extract (.tmp g) 0])(J:((ops.filter fun o=>o.dst==some C).map (·.op))=[.extract (.tmp g) 1])(K:((ops.filter fun o=>o.dst==some t2).map (·.op))=[.extract (.tmp g) 2])
 (v:S.o m=(lrD x).o 0)(D:SV.den S κ (.ag (lrL m))=nY (.slice x.A x.n x.c) x.im x.pg)(E:S.i (m+2)=x.k)(H:S.i (m+3)=x.e):gY S κ P ops (DU m g B C t2):=by
 refine⟨(fun _ h=>by cases h),fun y l o d u a w q=>?_⟩
 rcases Ξ.1 l with rfl|l
 ·have j:a.eval (.tmp g)=(lrD x).o 0:=(q _ (ρ.2 rfl)).trans v
  exact jv (kM I d u) j (by rw[D];rfl)
 rcases Ξ.1 l with rfl|l
 ·have j:a.eval (.tmp g)=(lrD x).o 0:=(q _ (ρ.2 rfl)).trans v
  exact jv (kM J d u) j (by show _=some (Value.int .i64 (S.i (m+2)));rw[E];rfl)
 obtain rfl:=ρ.1 l;have j:a.eval (.tmp g)=(lrD x).o 0:=(q _ (ρ.2 rfl)).trans v;exact jv (kM K d u) j (by show _=some (Value.int .i64 (S.i (m+3)));rw[H];rfl)
def LyR(P:aF)(ok:Bool)(pg:Nat)(x:LrE)(w:World):Prop:=
 match ok with
 | false=>x=vO (-1) 1
 | true=>match fA P pg with
  | (none,n,e)=>x=vO n e
  | (some l,n,e)=>x.im=l.image∧x.pg=l.pages∧x.k=n∧x.e=e∧x.n=l.Q3.length∧uK w (.slice x.A x.n x.c) l.Q3
theorem LyR.keep{P:aF}{x:LrE}(h:LyR P ok pg x w)(hk:Kz w w'):LyR P ok pg x w':=by
 unfold LyR at h⊢;split
 ·exact h
 ·simp only at h
  split
  ·rename_i e;rw[e]at h;exact h
  ·rename_i e
   rw[e]at h;obtain⟨d,g,j,l,q,u⟩:=h;exact⟨d,g,j,l,q,u.keep hk⟩
theorem LyR.other{P:aF}{x:LrE}{T:Nat→Prop}(h:LyR P ok pg x w)(hk:aD T w w')(I:∀g o,x.A=some ⟨g,o,none⟩→0<x.n→¬ T g):LyR P ok pg x w':=by
 unfold LyR at h⊢;split
 ·exact h
 ·simp only at h
  split
  ·rename_i e;rw[e]at h;exact h
  ·rename_i l n e j
   rw[j]at h;obtain⟨B,C,D,E,H,A,c,d,L,N,O⟩:=h;refine⟨B,C,D,E,H,A,c,d,L,N,fun v=>?_⟩;obtain⟨g,q,u,J⟩:=O v;simp only[Value.slice.injEq]at d;exact⟨g,q,Θ u hk.size,fun i y K=>(hk.cell (p:=⟨_,_,none⟩) u (I g 0 (d.1.trans q) χ)).trans (J i y K)⟩
theorem oz:∀(l:List Region) (S:PS) (out d:List Nat) (S':PS),gG S out l=.inr (d,S')→d.length=out.length+l.length
 | [],_,_,_,_,h=>by cases h;rfl
 | x::l,S,out,d,S',h=>by
  rw[gG]at h;split at h
  ·have:=oz l _ _ _ _ h
   simp only[List.length_append,List.length_cons,List.length_nil]at this⊢;omega
  ·split at h
   ·have:=oz l _ _ _ _ h
    simp only[List.length_append,List.length_cons,List.length_nil]at this⊢;omega
   ·cases h
theorem yV{P:aF}{l:Lay}{n e:Int}(h:fA P pg=(some l,n,e)):l.Q3.length=P.Q3.length:=by
 unfold fA at h;split at h
 ·cases h
 ·rename_i out S d
  split at h
  ·cases h
  ·cases h
   have:=oz _ _ _ _ _ d
   simpa using this
theorem Cf.vars{q w:World}{P:aF}{ok:Bool}{pg:Nat}{v:Ending}(h:Cf q P ok pg v w)(E:P.Q3.length≤4194304):∃x,v=.returned ((lrD x).o 0)∧LyR P ok pg x w∧∀g o,x.A=some ⟨g,o,none⟩→0<x.n→q.heap.size≤g:=by
 have d:∀(k e:Int) g o,(vO k e).A=some ⟨g,o,none⟩→0<(vO k e).n→q.heap.size≤g:=fun k e g o h _=>by cases h
 obtain⟨h,_⟩:=h;unfold LyR
 cases ok with
 | false=>exact⟨vO (-1) 1,h,rfl,d _ _⟩
 | true =>
  simp only at h⊢;split at h
  ·rename_i n e j
   rw[j];exact⟨vO n e,h,rfl,d _ _⟩
  ·rename_i l n e j
   rw[j];obtain⟨u,C,y,I⟩:=h;have B:=AG y (by rw[yV j];exact E);obtain⟨A,c,rfl,_⟩:=id B;refine⟨⟨A,l.Q3.length,c,l.image,l.pages,n,e⟩,C,⟨rfl,rfl,rfl,rfl,rfl,B⟩,fun g o (D:A=some ⟨g,o,none⟩) H=>?_⟩;subst D;exact(y.lt g rfl).1
theorem rd{named:ByteArray→Bool}{flat:Nat→cK→Nat×Int×Int}{P:aF}(h:BQ named flat P):BN P:=
 ⟨fun r g=>by obtain⟨_,_,_,b1,b2⟩:=h.bus.Qe r g;exact⟨b1,b2⟩,fun x d=>⟨mB (h.Q3.one x d).2.2.1,fun _=>mB (h.Q3.one x d).2.2.2.1⟩⟩
theorem wn{v:aY}{P:aF}(h:ak B w v P)(u:gI B w)(l:B≤w.heap.size){ok:Bool}(j:ok=true↔iz (d5 gW) aX P):
 Calls Tryz.prog 16 #[.agg (v.cells P).toArray] w fun y w'=>∃x,y=.returned ((lrD x).o 0)∧LyR P ok (pages aX P) x w'∧Kz w w'∧∀g o,x.A=some ⟨g,o,none⟩→0<x.n→w.heap.size≤g:=by
 refine(CB h l (ok:=ok) (pg:=pages aX P) (fun w' d=>?_) (fun w' d=>?_) (fun e=>rd (co (j.1 e))) (fun e=>?_)).mono fun y w' C=>?_
 ·refine(qw oo (ak.kept h l d) (u.below (d.below (B:=B) l fun _ _ e=>e)) (by have:=d.size;omega)).mono fun e K ⟨⟨a,x,I,J⟩,hk⟩=>⟨⟨a,x,I,?_⟩,hk⟩
  rw[j];exact(oI J).1
 ·exact mX (ak.kept h l d) (by have:=d.size;omega)
 ·have:=(co (j.1 e)).image
  omega
 ·obtain⟨x,D,E,H⟩:=C.vars (by obtain⟨_,_,_,_,q,_⟩:=h.Q3;unfold top at q;omega)
  exact⟨x,D,E,C.2,H⟩
theorem lr{S:Sta}{m:Nat}{d:Sta}(h:24≤m):Agr (lo 24) S (S.put m d):=(aN _ m _).mono (AT h)
def Br(m:Nat):List Cl := .i .i64 (.x m) :: .s (.x m)::(List.range 12).map fun j =>.sl (m+j) (m+j) (m+12+j)
theorem sZ{v:aY}{P:aF}(h:ak B w v P)(S:Sta)(κ:Kap):SV.den (S.put 40 (cC v P)) κ (.ag (Br 40))=.agg (v.cells P).toArray:=by
 rw[←mO h κ];rfl
theorem gI.kept{B':Nat}(h:gI B w)(g:B≤w.heap.size)(hk:Kz w w')(d:B≤B'):gI B' w':=by
 have h:=h.below (hk.below (B:=B) g fun _ _ e=>e);exact⟨by have:=h.pos;omega,h.err,fun w' j=>h.scan w' (j.mono d)⟩
end Rs
namespace Rs
open Go.RowKit Ck
variable {B:Nat} {w:World}
theorem yM{P:Program}{o:Oper}{f:FuncId}{t t2:Nat}(d:o.op=.makeFunc (.func f) #[] #[.tmp t,.tmp t2]){a:Act}{w:World}:(execOp a.eval o).run P w=.ok (.value (.func (.func f) #[] #[a.eval (.tmp t),a.eval (.tmp t2)])) w:=by
 obtain⟨dst,op,ty,pos,h,g⟩:=o;simp only at d;subst d;simp[execOp,Instr.makeFunc]
def hoF:Fr:=[(2,.one (.p 0 0)),(3,.one (.p 1 0))]
def hoM:Mm:=[(0,ae),(1,lrL 24)]
theorem zw{w':World}{v:aY}{P:aF}(h:ak B w v P)(g:gI B w)(j:B≤w.heap.size)(hk:Kz w w'):Calls Tryz.prog 10 #[.agg (v.cells P).toArray] w' fun e d=>(∃a x:Int,e=.returned (.tuple #[.int .i64 a,.int .i64 x])∧(x=0↔iz (d5 gW) aX P))∧Kz w' d:=
 (qw oo (ak.kept h j hk) (g.below (hk.below (B:=B) j fun _ _ e=>e)) (by have:=hk.size;omega)).mono fun e d ⟨⟨a,x,l,q⟩,hk⟩=>⟨⟨a,x,l,(oI q).1⟩,hk⟩
theorem Eb{v:aY}{P:aF}(h:ak B w v P)(j:gI B w)(L:B≤w.heap.size)(O:¬ iz (d5 gW) aX P)(x:LrE):
 Calls Tryz.prog 20 #[.agg (v.cells P).toArray,nY (.slice x.A x.n x.c) x.im x.pg] w fun e w'=>e=.returned (.int .i64 1)∧Kz w w':=by
 obtain⟨R,D⟩:∃R:Ending→World→Prop,R=fun e w'=>e=.returned (.int .i64 1)∧Kz w w':=⟨_,rfl⟩
 rw[←D];refine fnE ((cC v P).put 24 (lrD x)) (fun _=>(0,0)) [.ag ae,.ag (lrL 24)] Tryz.func20 Tryz.ntmps20 rfl (by rw[List.map_cons,bB h (aN _ 24 _)];rfl) ψ H0 (fun _ h=>h.elim) trivial fun a N hh=>?_
 refine az 1 τ hoF hoM 2 [] hPp δ hh fun κ1 Z w1 V C=>?_
 refine oS 1 10 [.ag ae] (.tu [.i .i64 (.x 32),.i .i64 (.x 33)]) 32 (fun d _=>∃a x,d=tw a x∧(x=0↔iz (d5 gW) aX P)) τ ((6,.one (.i .i64 (.x 33)))::hoF) hoM 2 δ V (fun w' q=>?_) fun κ2 a2 w2 d wt ⟨xa,I,g,u⟩ kt W E=>?_
 ·rw[List.map_cons,bB h (aN _ 24 _)]
  exact(zw h j L (K3 C.keep q)).mono fun e Y ⟨⟨a,x,J,K⟩,e3⟩=>⟨_,⟨a,x,rfl,K⟩,J,e3⟩
 subst g;have l:(I !=0)=true:=by
  have:I≠0:=fun e=>O (u.1 e)
  simpa using this
 refine dZ 2 τ [(4,.one (.i .i64 (.c 1)))] [] 2 [] hPp δ (W.more [(.cmp .neq (.x 33) (.c 0),true)] [] [] (fa1 l) (fun y U=>by cases U) (fun i x Q=>by cases Q)) fun κ3 a3 w3 X H=>?_
 exact fX 4 rfl X.has rfl (H.agree.defers.trans (E.agree.defers.trans (C.agree.defers.trans N))) (by rw[D];exact⟨rfl,K3 (K3 C.keep E.keep) H.keep⟩)
def pgD(n:Nat):Sta where
 i _:=n
def G8:Kn:={ KO:=[(38,[(7,.one (.p 2 0)),(8,.one (.p 3 0))],.one (.v 56))] }
def hoD(bg bt:Nat):Sta where
 o _ := .func (.func 59) #[] #[.pointer (some ⟨bg,0,none⟩),.pointer (some ⟨bt,0,none⟩)]
def elD(p u:Nat):Sta where
 i j:=match j with|0=>p|_=>u
def hoR:Fr:=(41,.one (.i .i64 (.ln 2)))::(40,.one (.sl 2 2 14))::(9,.one (.v 56))::hoF
def G9:List (FuncId×List SV×SV):=[(59,[.one (.i .u64 (.x 80)),.one (.i .u64 (.x 73)),.one (.i .u64 (.x 81)),.one (.b (.c true)),.one (.p 2 0),.one (.p 3 0)],.one (.i .i64 (.c 0)))]
def Ec:List (FuncId×List SV×SV):=[(55,[.ag (lJ 72)],.one (.i .u64 (.x 81)))]
def HoW(w0:World)(bg bt:Nat)(P:aF)(l:Lay)(eg:SlE)(k:Nat)(w:World):Prop:=cP w0 bg (cX P) eg w∧∃et,cP w0 bt (tak P l k) et w
theorem HoW.keep{q w':World}{d g:Nat}{P:aF}{l:Lay}{j:SlE}{k:Nat}(hk:Kz w w')(h:HoW q d g P l j k w):HoW q d g P l j k w':=⟨h.1.keep hk,by obtain⟨et,u⟩:=h.2;exact⟨et,u.keep hk⟩⟩
theorem Ah{v:aY}{P:aF}(h:ak B w v P)(c3:gI B w)(hB:B≤w.heap.size)(U:iz (d5 gW) aX P){l:Lay}(Q:jm P l)(c4:l.pages=pages aX P){x:LrE}(c5:x.im=l.image)(b3:x.pg=l.pages)(b4:x.n=l.Q3.length)(c6:uK w (.slice x.A x.n x.c) l.Q3):
 Calls Tryz.prog 20 #[.agg (v.cells P).toArray,nY (.slice x.A x.n x.c) x.im x.pg] w fun e w'=>e=.returned (.int .i64 0)∧Kz w w':=by
 obtain⟨R,hR⟩:∃R:Ending→World→Prop,R=fun e w'=>e=.returned (.int .i64 0)∧Kz w w':=⟨_,rfl⟩
 rw[←hR];have bb:=co U;have N:=rd bb;have dt:P.Q3.length≤2097152:=by obtain⟨_,_,_,_,Q,_⟩:=h.Q3;exact Q
 refine fnE ((cC v P).put 24 (lrD x)) (fun _=>(0,0)) [.ag ae,.ag (lrL 24)] Tryz.func20 Tryz.ntmps20 rfl (by rw[List.map_cons,bB h (aN _ 24 _)];rfl) ψ H0 (fun _ h=>h.elim) trivial fun a hd hh=>?_
 refine az 1 τ hoF hoM 2 [] hPp δ hh fun κ1 a1 w1 n1 p1=>?_
 refine oS 1 10 [.ag ae] (.tu [.i .i64 (.x 32),.i .i64 (.x 33)]) 32 (fun d _=>∃a x,d=tw a x∧(x=0↔iz (d5 gW) aX P)) τ ((6,.one (.i .i64 (.x 33)))::hoF) hoM 2 δ n1 (fun w' E=>?_) fun κ2 a2 w2 d wt ⟨xa,xe,cu,c7⟩ kt n2 p2=>?_
 ·rw[List.map_cons,bB h (aN _ 24 _)]
  exact(zw h c3 hB (K3 p1.keep E)).mono fun e bo ⟨⟨a,x,e1,e2⟩,e3⟩=>⟨_,⟨a,x,rfl,e2⟩,e1,e3⟩
 subst cu;have b0:=K3 p1.keep p2.keep;have hz:xe=0:=c7.2 U;have n3:=(n2.lay 40 (pgD l.pages) δ).more [(.cmp .neq (.x 33) (.c 0),false),(.cmp .neq (.ln 24) (.ln 2),false),(.cmp .neq (.x 25) (.x 40),false)] [(23,[.ag ae],.one (.i .i64 (.x 40)))] [] (fac (by show(xe !=0)=false;rw[hz];rfl) (fac (by show((x.n:Int)!=(P.Q3.length:Int))=false;rw[b4,Q.len];simp) (fac (by show(x.pg !=(l.pages:Int))=false;rw[b3];simp) eU))) (fun y hy w' E=>by
  obtain rfl:=ρ.1 hy;rw[List.map_cons,bB h (((aN _ 24 _).trans (lr ψ)).trans (lr ψ))];have hk:=K3 b0 E;have:=mX (ak.kept h hB hk) (by have:=hk.size;omega);rw[←c4]at this;exact this) (fun i x hx=>by cases hx)
 refine az 2 τ hoF hoM 2 [] hPp δ n3 fun κ3 a3 w3 n4 p3=>?_
 have bc:=K3 b0 p3.keep;refine oS 1 58 [.ag ae] (.ag [.sl 48 49 50]) 48 (fun d w4=>∃e:SlE,d=slD e∧∃L,e.n=L.length∧av w4 (.slice e.A e.n e.c) L∧(∀q,q<w3.heap.size→aJ w4 q (.slice e.A e.n e.c) L)∧dR L∧∀q,aW L q↔cX P q) τ ((7,.one (.p 2 0))::hoF) ((2,[.sl 48 49 50])::hoM) 3 δ n4.bare (fun w' E=>?_) fun κ4 a4 w4 d0 wf ⟨V,cs,L,l1,l2,l3,l4,l5⟩ ca n5 p4=>?_
 ·rw[List.map_cons,bB h (((aN _ 24 _).trans (lr ψ)).trans (lr ψ))]
  have hk:=K3 bc E;refine(wV (ak.kept h hB hk) (by have:=hk.size;omega) N).mono fun e bo ⟨u,l,y1,y2,y3,y4,y5,y6⟩=>?_
  obtain⟨A',c',rfl,_⟩:=id y2;exact⟨_,⟨⟨A',l.length,c'⟩,rfl,l,rfl,y2,fun q hq=>y3 q (by have:=E.size;omega),y4,y5⟩,y1,y6⟩
 subst cs;obtain⟨y1,y2,y3⟩:=p4.new.row n5.mem (r:=2) rfl ψ ψ;obtain⟨I,bw⟩:∃b,b=(κ4 2).1:=⟨_,rfl⟩;rw[←bw]at y1 y3;have c8:κ4 2=(I,0):=Prod.ext bw.symm y2;refine fU (CL:={}) τ ((7,.one (.p 2 0))::(8,.one (.p 3 0))::hoF) ((3,[.l (.slice none 0 0)])::(2,[.sl 48 49 50])::hoM) 4 [] δ n5 dy fun κ5 a5 w5 n6 p5=>?_
 obtain⟨t1,t2,t3⟩:=p5.new.row n6.mem (r:=3) rfl ψ ψ;obtain⟨D,bx⟩:∃b,b=(κ5 3).1:=⟨_,rfl⟩;rw[←bx]at t1 t3;have b6:κ5 3=(D,0):=Prod.ext bx.symm t2;have b5:κ5 2=(I,0):=(p5.upto 2 ψ).trans c8;have d7:I<D:=by have:=y1.lt;omega
 refine fU (CL:=G8) τ ((9,.one (.v 56))::hoF) hoM 4 [] δ (n6.lay 56 (hoD I D) δ) ⟨(fun _ h=>by cases h),fun y hy o ho hd a w ha=>by
  obtain rfl:=ρ.1 hy;have h7:a.eval (.tmp 7)=.pointer (some ⟨(κ5 2).1,(κ5 2).2+0,none⟩):=ha _ List.mem_cons_self;have h8:a.eval (.tmp 8)=.pointer (some ⟨(κ5 3).1,(κ5 3).2+0,none⟩):=ha _ (List.mem_cons_of_mem _ (ρ.2 rfl));rw[b5]at h7;rw[b6]at h8;rw[yM (f:=59) (t:=7) (t2:=8) (kM (op := .makeFunc (.func 59) #[] #[.tmp 7,.tmp 8]) rfl ho hd),h7,h8];rfl⟩ fun κ6 a6 w6 n8 p6=>?_
 refine az 1 τ ((42,.one (.i .i64 (.c 0)))::hoR) hoM 4 [] hPp δ n8 fun J a7 w7 n9 p7=>?_
 have X:J 2=(I,0):=(p7.upto 2 ψ).trans ((p6.upto 2 ψ).trans b5);have ad:J 3=(D,0):=(p7.upto 3 ψ).trans ((p6.upto 3 ψ).trans b6);have cb:Kz wf w7:=K3 (K3 (K3 ca p5.keep) p6.keep) p7.keep;have bd:Kz w4 w7:=K3 (K3 p5.keep p6.keep) p7.keep;have b1:Kz w w7:=K3 (K3 bc p4.keep) bd;have be:∀r,r<2→(J r).1<w3.heap.size:=fun r U=>by
  have e7:J r=κ3 r:=(p7.upto r (by show r<4;omega)).trans ((p6.upto r (by show r<4;omega)).trans ((p5.upto r (by show r<3;omega)).trans (p4.upto r (by show r<2;omega))));rw[e7]
  match r,U with
  | 0,_=>exact(n4.mem.get 0 _ rfl).1.1
  | 1,_=>exact(n4.mem.get 1 _ rfl).1.1
 have b2:w.heap.size≤D:=by have:=bc.size;have:=p4.keep.size;omega
 have d9:w3.heap.size≤w7.heap.size:=(K3 p4.keep bd).size;have bm:Row w7 D [.slice none 0 0]:=(t1.keep p6.keep fun h=>h).keep p7.keep fun h=>h
 have cx:∀g o,V.A=some ⟨g,o,none⟩→0<V.n→g≠D:=fun g o N hn=>by
  obtain⟨A,c,e1,_,_,e2⟩:=l2;obtain⟨g',e3,e4,_⟩:=e2 χ;simp only[Value.slice.injEq]at e1;have:=e1.1;rw[N,e3]at this
  cases this
  have:=ca.size;omega
 have i0:HoW w3 I D P l V 0 w7:=⟨⟨y1.keep bd fun h=>h,L,l1,l2.keep cb,fun q hq=>aJ.keep (l3 q hq) (cb.mono fun _ _ h=>h.elim),l4,l5⟩,_,cP.nil bm fun q=>sI q⟩;have cc:=n9.mute (Gh.of (fun g=>g=D) (fun _=>True) (fun _ _ _ _=>trivial)) hoM [] δ (fun r m hm e=>by
  have U:r<2:=by
   rcases Ξ.1 (gV hm)with e|e
   ·cases e;omega
   ·cases ρ.1 e;omega
  have:=be r U;have e:(J r).1=D:=e;omega) (fun g N=>by rw[show g=D from N];exact bm.lt) trivial
 have cv:a7.defers=[]:=p7.agree.defers.trans (p6.agree.defers.trans (p5.agree.defers.trans (p4.agree.defers.trans (p3.agree.defers.trans (p2.agree.defers.trans (p1.agree.defers.trans hd))))));have uc:∀b,cO b=4096∨cO b=2097152:=fun b=>by unfold cO;cases b<;>simp
 refine bF (pK cc P.Q3.length 64 42 2 hoR τ (fun _:Unit=>{}) (fun k _ w=>HoW w3 I D P l V k w) (fun _ _ _ _ hk h=>h.keep hk) () hPp δ rfl χ i0 (cc.has.re ⟨rfl,rfl,rfl,rfl,rfl,rfl,trivial⟩) (fun k e a8 w8 hk af hA hK=>?_) fun e a8 w8 af hA hK=>?_)
 ·obtain⟨y,hy⟩:=ge hk
  obtain⟨p,hp⟩:=ge (show k<l.Q3.length by rw[Q.len];exact hk);have K:aD (fun g=>g=D) w7 w8:=hK;have ac:∀g,g=D→w.heap.size≤g:=fun g N=>χ
  have bs:Kz w w8:=aR b1 K ac;obtain⟨g,o,h1,h2,h3⟩:=cV h.Q3 (aH _ _ _) hB bs hy;have d4:g<w.heap.size:=by
   obtain⟨g',o',bp,cp,_⟩:=cV h.Q3 (aH _ _ _) hB (aD.refl (fun _=>False) w) hy;rw[h1]at bp
   cases bp
   exact cp
  obtain⟨κ9,u9,bf⟩:=af.elem (j:=2) (x:=lI y) (cl:=lJ 72) h1 ⟨h2,fun e=>by have:=ac g e;omega⟩ hk h3.1 rfl δ;refine ai (az 1 τ ((10,.one (.i .i64 (.x 64)))::(11,.one (.p 5 0))::fx 64 42 hoR) ((5,lJ 72)::hoM) 6 [] hPp δ bf fun eb d1 Z an Y=>?_);obtain⟨A,c,e1,_,_,e2⟩:=id c6;obtain⟨gl,e3,bz,hm⟩:=e2 (by have:=Q.len;omega);simp only[Value.slice.injEq]at e1;have a0:Kz w Z:=aR bs Y.keep ac;obtain⟨H,dk,_,c9⟩:=(an.lay 80 (elD p (cO y.big)) δ).base gl k [.i .u64 (.x 80)] ⟨Θ bz a0.size,fun e=>by have:=ac gl e;omega⟩ (fun j v hj=>by
   match j,hj with
   | 0,hj =>
    obtain rfl:=ι hj;exact(a0.cell (p:=⟨_,_,none⟩) bz id).trans (hm k p hp)) [(24,1,.x 64,24,6)] δ (fun z hz=>by
   obtain rfl:=ρ.1 hz;refine⟨?_,?_,gl,0,e1.1.trans e3,?_⟩
   ·show(0:Int)≤(k:Int);omega
   ·show(k:Int)<((x.n:Nat):Int);rw[b4,Q.len];omega
   ·show(gl,k)=(gl,0+(k:Int).toNat*1)
    congr 1
    omega)
  have W:∀r,r<4→H r=J r:=fun r U=>(dk r χ).trans ((Y.upto r (by show r<5;omega)).trans (u9 r U))
  have O:=pE Q.len hy hp;obtain⟨s0,s1,s2,s3⟩:=Q.one k p y.size O;obtain⟨f1,f2⟩:=Q.fixed k p y hy hp;have dc:=c9.setH (Gh.two (fun g=>g=D) (fun w=>HoW w3 I D P l V k w) (fun w=>HoW w3 I D P l V (k+1) w) (fun _ _ hk h=>h.keep hk) (fun _ _ hk h=>h.keep hk)) (fun _=>Iff.rfl) [] (show HoW w3 I D P l V k Z from an.gh);obtain⟨FA,hc,hF⟩:∃FA:List (BE×Bool),(FA=[(.x 72,true),(.cmp .eql (.x 80) (.x 74),true)]∨FA=[(.x 72,false)])∧∀z∈FA,z.1.den (((((((cC v P).put 24 (lrD x)).put 32 (tw xa xe)).put 40 (pgD l.pages)).put 48 (slD V)).put 56 (hoD I D)).put 64 (((({}:Sta).put 8 (lI y)).cnt k)) |>.put 80 (elD p (cO y.big)))=z.2:=by
   cases hfx:y.fixed with
   | true =>
    exact⟨_,.inl rfl,vc hfx (by
     show((p:Int)==(y.Q7:Int))=true;rw[f1 hfx];simp)⟩
   | false=>exact⟨_,.inr rfl,fa1 hfx⟩
  refine Cq (C:={ EL:=[(24,1,.x 64,24,6)],FA:=FA,CT:=Ec,ET:=G9 }) (CL:={ CL:=[(56,59,[.one (.p 2 0),.one (.p 3 0)])] }) 70 0 τ ((12,.one (.i .i64 (.c 0)))::fx 64 42 hoR) hoM 7 hPp (by rcases hc with rfl|rfl<;>kernel_rfl) (dc.more FA Ec [] hF (fun z hz w' hw=>by
   obtain rfl:=ρ.1 hz;exact qz y w') (fun i x hx=>by cases hx)) ⟨fun z hz=>by
   obtain rfl:=ρ.1 hz;show Value.func (.func 59) #[] #[.pointer (some ⟨I,0,none⟩),.pointer (some ⟨D,0,none⟩)]=.func (.func 59) #[] #[.pointer (some ⟨(H 2).1,(H 2).2+0,none⟩),.pointer (some ⟨(H 3).1,(H 3).2+0,none⟩)];rw[W 2 ψ,W 3 ψ,X,ad],fun _ h=>by cases h⟩ (fun z hz w' hw cy=>by
   obtain rfl:=ι hz;obtain⟨hG,et,hE⟩:=(show HoW w3 I D P l V k w' from cy);show Calls Tryz.prog 59 #[.int .u64 p,.int .u64 y.size,.int .u64 (cO y.big),.bool true,.pointer (some ⟨(H 2).1,(H 2).2+0,none⟩),.pointer (some ⟨(H 3).1,(H 3).2+0,none⟩)] w' _;rw[W 2 ψ,W 3 ψ,X,ad];refine(tM hG hE (by have:=K.size;have:=hw.size;have:=(show aD (fun g=>g=D) w8 Z from Y.keep).size;omega) f2 s1 (N.reg y (γ hy)).1 s0 s2 (uc _) fun q q1 q2=>Q.fresh O q q1 q2).mono fun en bo ⟨q1,q2,e',q3,q4⟩=>⟨q1,q2,hG.other q2 (fun e=>by have e:I=D:=e;omega) (fun g o N hn=>cx g o N hn),e',?_⟩
   have:(fun q=>tak P l k q∨(p≤q∧q<p+y.size))=tak P l (k+1):=funext fun q=>propext (sJ O q).symm
   rwa[this]at q3) fun d2 cj di cf=>?_
  exact az 2 τ (fx 64 42 hoR) hoM 7 [0] hPp (by rcases hc with rfl|rfl<;>kernel_rfl) di fun ds d3 cm cd bl=>cW rfl ⟨(),ds,(show HoW w3 I D P l V (k+1) cm from cd.gh),fun r (U:r<4)=>(bl.upto r (by show r<7;omega)).trans (W r U),cd.has.re ⟨rfl,rfl,rfl,rfl,rfl,rfl,trivial⟩,((hA.trans Y.agree fun _ h=>h).trans cf.agree fun _ h=>h).trans bl.agree fun _ h=>h,((K.trans (show aD (fun g=>g=D) w8 Z from Y.keep) fun _ _ h=>h).trans (show aD (fun g=>g=D) Z cj from cf.keep) fun _ _ h=>h).trans (show aD (fun g=>g=D) cj cm from bl.keep) fun _ _ h=>h⟩
 ·have K:aD (fun g=>g=D) w7 w8:=hK
  have hW:HoW w3 I D P l V P.Q3.length w8:=af.gh;have O:=kj Q.len;obtain⟨s0,s1,s2,s3⟩:=Q.one _ _ _ O;have bf:=af.mute H0 hoM [] δ (fun _ _ _ h=>h) (fun _ h=>h.elim) trivial;refine Cp (T2:=fun g=>g=D) 7 56 3 59 [.one (.i .u64 (.x 24)),.one (.i .u64 (.bin .mul .u64 (.cv .u64 (.x 25)) (.c 4096))),.one (.i .u64 (.c 4096)),.one (.b (.c true))] [.one (.p 2 0),.one (.p 3 0)] (.one (.i .i64 (.x 80))) 80 (fun d _=>d=pgD 0) τ [(4,.one (.i .i64 (.x 80)))] [] 4 δ bf (fun r U=>?_) (fun g N=>by rw[show g=D from N];exact Θ bm.lt K.size) ?_ (fun w' E=>?_) fun κ9 a9 w9 d ea cw d8 an u9 k9 g9=>?_
  ·match r,U with
   | 0,_=>exact .inr fun e=>by have e:(J 0).1=D:=e;have:=be 0 ψ;omega
   | 1,_=>exact .inr fun e=>by have e:(J 1).1=D:=e;have:=be 1 ψ;omega
   | 2,_=>exact .inr fun e=>by have e:(J 2).1=D:=e;rw[X]at e;have e:I=D:=e;omega
   | 3,_=>exact .inl rfl
  ·show Value.func (.func 59) #[] #[.pointer (some ⟨I,0,none⟩),.pointer (some ⟨D,0,none⟩)]=.func (.func 59) #[] #[.pointer (some ⟨(J 2).1,(J 2).2+0,none⟩),.pointer (some ⟨(J 3).1,(J 3).2+0,none⟩)]
   rw[X,ad]
  ·show Calls Tryz.prog 59 #[.int .u64 x.im,.int .u64 (IntKind.u64.wrap (IntKind.u64.wrap x.pg*4096)),.int .u64 4096,.bool true,.pointer (some ⟨(J 2).1,(J 2).2+0,none⟩),.pointer (some ⟨(J 3).1,(J 3).2+0,none⟩)] w' _
   rw[X,ad,b3,bR (x:=(l.pages:Int)) χ,bR χ,show((l.pages:Int)*4096)=((l.pages*4096:Nat):Int) by omega,c5];obtain⟨hG,et,hE⟩:=hW.keep E;exact(tM hG hE (by have:=K.size;have:=E.size;omega) (Q7:=l.image) (size:=l.pages*4096) (al:=4096) s1 s1 χ s0 s2 (.inl rfl) fun q q1 q2=>Q.fresh O q q1 q2).mono fun en bo ⟨q1,q2,_⟩=>⟨_,rfl,q1,q2⟩
  ·subst cw
   refine kE (fX 4 rfl an.has rfl (g9.defers.trans (hA.defers.trans cv)) ?_);rw[hR];exact⟨rfl,aR (aR b1 K fun g N=>by rw[show g=D from N];exact b2) k9 fun g N=>by rw[show g=D from N];exact b2⟩
end Rs
namespace Rs
open Go.RowKit Ck
def paF:Fr:=[(2,.one (.p 0 0)),(3,.one (.p 1 0))]
def paR:Fr:=(5,.one (.p 2 0))::(6,.one (.p 3 0))::paF
def paM:Mm:=[(0,ae),(1,lrL 24),(2,[.sl 48 49 50])]
def paX:SV := .ag [.i .u64 (.x 96),.i .u64 (.bin .sub .u64 (.bin .add .u64 (.x 96) (.x 97)) (.c 1))]
def paC:List (FuncId×List SV×SV):=[(61,[.ag [.sl 48 49 50],paX],.one (.b (.c true))),(62,[.ag [.sl 64 65 66],paX],.one (.b (.c false)))]
def rg0:Region:=⟨0,ByteArray.empty,0,false,0,false,false,0,false,ByteArray.empty⟩
def PaW(w0:World)(bg bt:Nat)(P:aF)(l:Lay)(eg:SlE)(k:Nat)(e:SlE)(w:World):Prop:=cP w0 bg (cX P) eg w∧cP w0 bt (tak P l k) e w
theorem qf{B:Nat}{w:World}{v:aY}{P:aF}(h:ak B w v P)(hB:B≤w.heap.size)(W:iz (d5 gW) aX P){l:Lay}(O:jm P l){x:LrE}(d2:x.im=l.image)(d3:x.pg=l.pages)(b5:x.n=l.Q3.length)(d4:uK w (.slice x.A x.n x.c) l.Q3):
 Calls Tryz.prog 21 #[.agg (v.cells P).toArray,nY (.slice x.A x.n x.c) x.im x.pg] w fun e w'=>e=.returned (.bool true)∧Kz w w':=by
 obtain⟨R,hR⟩:∃R:Ending→World→Prop,R=fun e w'=>e=.returned (.bool true)∧Kz w w':=⟨_,rfl⟩
 rw[←hR];have Z:=co W;have hg:=rd Z;have er:P.Q3.length≤2097152:=by obtain⟨_,_,_,_,O,_⟩:=h.Q3;exact O
 refine fnE ((cC v P).put 24 (lrD x)) (fun _=>(0,0)) [.ag ae,.ag (lrL 24)] Tryz.func21 Tryz.ntmps21 rfl (by rw[List.map_cons,bB h (aN _ 24 _)];rfl) ψ H0 (fun _ h=>h.elim) trivial fun a hd hh=>?_
 refine az 1 τ paF [(0,ae),(1,lrL 24)] 2 [] hPp δ hh fun κ3 a3 w3 n4 p3=>?_
 have a6:=p3.keep;refine oS 1 64 [.ag ae] (.ag [.sl 48 49 50]) 48 (fun d w4=>∃e:SlE,d=slD e∧∃L,e.n=L.length∧av w4 (.slice e.A e.n e.c) L∧(∀q,q<w3.heap.size→aJ w4 q (.slice e.A e.n e.c) L)∧dR L∧∀q,aW L q↔cX P q) τ ((5,.one (.p 2 0))::paF) [(2,[.sl 48 49 50]),(0,ae),(1,lrL 24)] 3 δ n4 (fun w' b4=>?_) fun κ4 a4 w4 d0 wf ⟨X,di,L,l1,l2,l3,l4,l5⟩ cc n5 p4=>?_
 ·rw[List.map_cons,bB h (aN _ 24 _)]
  have hk:=K3 a6 b4;refine(AQ (ak.kept h hB hk) (by have:=hk.size;omega) hg fun r W=>?_).mono fun e cv ⟨u,l,y1,y2,y3,y4,y5,y6⟩=>?_
  ·obtain⟨b1,_,b2,_⟩:=Z.bus.Qe r W
   exact⟨b1,b2⟩
  ·obtain⟨A',c',rfl,_⟩:=id y2
   exact⟨_,⟨⟨A',l.length,c'⟩,rfl,l,rfl,y2,fun q hq=>y3 q (by have:=b4.size;omega),y4,y5⟩,y1,y6⟩
 subst di;obtain⟨y1,y2,y3⟩:=p4.new.row n5.mem (r:=2) rfl ψ ψ;obtain⟨bg,bw⟩:∃b,b=(κ4 2).1:=⟨_,rfl⟩;rw[←bw]at y1 y3;have d9:κ4 2=(bg,0):=Prod.ext bw.symm y2;refine fU (CL:={}) τ paR ((3,[.l (.slice none 0 0)])::paM) 4 [] δ n5 dy fun κ5 a5 w5 n6 p5=>?_
 obtain⟨t1,t2,t3⟩:=p5.new.row n6.mem (r:=3) rfl ψ ψ;obtain⟨H,bx⟩:∃b,b=(κ5 3).1:=⟨_,rfl⟩;rw[←bx]at t1 t3;have eb:κ5 3=(H,0):=Prod.ext bx.symm t2;have ea:κ5 2=(bg,0):=(p5.upto 2 ψ).trans d9;have e5:bg<H:=by have:=y1.lt;omega
 refine az 3 τ ((7,.one (.i .i64 (.c 0)))::paR) paM 4 [] hPp δ (n6.more [(.cmp .neq (.ln 24) (.ln 2),false)] [] [] (fa1 (by show((x.n:Int)!=(P.Q3.length:Int))=false;rw[b5,O.len];simp)) (fun y hy=>by cases hy) (fun i x hx=>by cases hx)) fun κ7 a7 w7 n9 p7=>?_
 have ec:κ7 2=(bg,0):=(p7.upto 2 ψ).trans ea;have bd:κ7 3=(H,0):=(p7.upto 3 ψ).trans eb;have cd:Kz wf w7:=K3 (K3 cc p5.keep) p7.keep;have bc:Kz w4 w7:=K3 p5.keep p7.keep;have b3:Kz w w7:=K3 (K3 a6 p4.keep) bc;have cf:∀r,r<2→(κ7 r).1<w3.heap.size:=fun r W=>by
  have e7:κ7 r=κ3 r:=(p7.upto r (by show r<4;omega)).trans ((p5.upto r (by show r<3;omega)).trans (p4.upto r (by show r<2;omega)));rw[e7]
  match r,W with
  | 0,_=>exact(n4.mem.get 0 _ rfl).1.1
  | 1,_=>exact(n4.mem.get 1 _ rfl).1.1
 have d1:w.heap.size≤H:=by have:=a6.size;have:=p4.keep.size;omega
 have fc:w3.heap.size≤w7.heap.size:=(K3 p4.keep bc).size;have cu:Row w7 H [.slice none 0 0]:=t1.keep p7.keep fun h=>h
 have dt:∀g o,X.A=some ⟨g,o,none⟩→0<X.n→g≠H:=fun g o hg hn=>by
  obtain⟨A,c,e1,_,_,e2⟩:=l2;obtain⟨g',e3,e4,_⟩:=e2 χ;simp only[Value.slice.injEq]at e1;have:=e1.1;rw[hg,e3]at this
  cases this
  have:=cc.size;omega
 have i0:PaW w3 bg H P l X 0 ⟨none,0,0⟩ w7:=⟨⟨y1.keep bc fun h=>h,L,l1,l2.keep cd,fun q hq=>aJ.keep (l3 q hq) (cd.mono fun _ _ h=>h.elim),l4,l5⟩,cP.nil cu fun q=>sI q⟩;have cj:=n9.mute (Gh.of (fun g=>g=H) (fun _=>True) (fun _ _ _ _=>trivial)) paM [] δ (fun r m hm e=>by
  have e:(κ7 r).1=H:=e
  rcases Ξ.1 (gV hm)with e'|e'
  ·cases e';have:=cf 0 ψ;omega
  rcases Ξ.1 e' with e'|e'
  ·cases e';have:=cf 1 ψ;omega
  ·cases ρ.1 e';rw[ec]at e;have e:bg=H:=e;omega) (fun g hg=>by rw[show g=H from hg];exact cu.lt) trivial
 have dk:a7.defers=[]:=p7.agree.defers.trans (p5.agree.defers.trans (p4.agree.defers.trans (p3.agree.defers.trans hd)));refine bF (Dd (fun n I J idx h0 hi h1 hb h2 hq=>rE n I J idx h0 hi h1 hb h2 hq) [] cj.bare rfl (P.Q3.length+1) 64 7 .i64 (fun k=>(k:Int)) 1 (.cmp .leq (.x 64) (.ln 2)) paR τ slD (fun k e w=>PaW w3 bg H P l X k e w) (fun _ _ _ _ hk h=>⟨h.1.keep hk,h.2.keep hk⟩) ⟨none,0,0⟩ hPp δ (fun j d hj=>?_) (fun j hj=>by rw[Go.IntWalk.i64_in _ χ];omega) (fun j hj=>by show((j:Int)-(0:Nat)).toNat / (1:Int).toNat=j;simp) i0 (cj.has.re ⟨rfl,rfl,rfl,rfl,rfl,trivial⟩) (fun k e a8 w8 hk ac hA hK=>?_) fun e a8 w8 ac hA hK=>?_)
 ·show decide ((j:Int)≤(P.Q3.length:Int))=decide (j<P.Q3.length+1)
  by_cases c:j≤P.Q3.length
  ·rw[decide_eq_true χ,decide_eq_true χ]
  ·rw[decide_eq_false χ,decide_eq_false χ]
 ·obtain⟨hG,hE⟩:=(show PaW w3 bg H P l X k e w8 from ac.gh)
  have Y:aD (fun g=>g=H) w7 w8:=hK;have dc:∀g,g=H→w.heap.size≤g:=fun g hg=>χ
  have a2:Kz w w8:=aR b3 Y dc;obtain⟨r1,L',r2,r3,r4,r5,r6⟩:=id hE;obtain⟨bs,gL,ey,c7,ez,c8,c9⟩:=id hG
  -- what is asked of: its place and its size
  obtain⟨c3,V⟩:∃p,(gz P l)[k]?=some p:=by
   rcases Ψ k P.Q3.length with c|c
   ·obtain⟨y,hy⟩:=ge c
    obtain⟨p,hp⟩:=ge (show k<l.Q3.length by rw[O.len];exact c);exact⟨_,pE O.len hy hp⟩
   ·obtain rfl:k=P.Q3.length:=χ
    exact⟨_,kj O.len⟩
  obtain⟨D,C⟩:=c3;obtain⟨s0,s1,s2,s3⟩:=O.one k D C V;have ad:=ac.row 3 [.sl 64 65 66] (by rw[bd]) (by rw[bd];exact r1);obtain⟨J,hJ⟩:∃J:Act→World→Prop,J=fun a' w'=>∃(y:Region) (p:Nat) (κ':Kap),Now (((((((cC v P).put 24 (lrD x)).put 48 (slD X)).put 64 ((slD e).cnt k)).put 72 (lI y)).put 80 (elD p 0)).put 96 (elD D C)) κ' 105 Tryz.prog {} H0 ⟨(8,.one (.i .u64 (.x 96)))::(9,.one (.i .u64 (.x 97)))::fx 64 7 paR,[(0,ae),(1,lrL 24),(2,[.sl 48 49 50]),(3,[.sl 64 65 66])],6,[]⟩ a' w'∧cZ 4 κ7 κ'∧Kz w8 w'∧aE τ a8 a':=⟨_,rfl⟩
  refine ai (CU 4 J ?_ fun es e6 hj=>?_)
  ·rw[hJ]
   rcases Ψ k P.Q3.length with c|c
   ·obtain⟨y,hy⟩:=ge c
    obtain⟨p,hp⟩:=ge (show k<l.Q3.length by rw[O.len];exact c);have E:=pE O.len hy hp;rw[V]at E;simp only[Option.some.injEq,Prod.mk.injEq]at E;obtain⟨rfl,rfl⟩:=E;obtain⟨f1,f2⟩:=O.fixed k _ y hy hp;obtain⟨g,o,h1,h2,h3⟩:=cV h.Q3 (aH _ _ _) hB a2 hy;obtain⟨A,c',e1,_,_,e2⟩:=id d4;obtain⟨gl,e3,b0,hm⟩:=e2 (by have:=O.len;omega);simp only[Value.slice.injEq]at e1;obtain⟨cy,eg,_,be⟩:=(((ad.lay 72 (lI y) δ).lay 80 (elD D 0) δ).lay 96 (elD D y.size) δ).base g (o+k*10) (lJ 72) ⟨h2,id⟩ h3.1 [(2,10,.x 64,2,4)] δ (fun z hz=>by
     obtain rfl:=ρ.1 hz;refine⟨?_,?_,g,o,h1,?_⟩
     ·show(0:Int)≤(k:Int);omega
     ·show(k:Int)<(P.Q3.length:Int);omega
     ·show(g,o+k*10)=(g,o+(k:Int).toNat*10)
      congr 1)
    obtain⟨bl,eo,_,al⟩:=be.base gl k [.i .u64 (.x 80)] ⟨Θ b0 a2.size,id⟩ (fun j v hj=>by
     match j,hj with
     | 0,hj =>
      obtain rfl:=ι hj;exact(a2.cell (p:=⟨_,_,none⟩) b0 id).trans (hm k D hp)) [(24,1,.x 64,24,5)] δ (fun z hz=>by
     obtain rfl:=ρ.1 hz;refine⟨?_,?_,gl,0,e1.1.trans e3,?_⟩
     ·show(0:Int)≤(k:Int);omega
     ·show(k:Int)<((x.n:Nat):Int);rw[b5,O.len];omega
     ·show(gl,k)=(gl,0+(k:Int).toNat*1)
      congr 1
      omega)
    have a0:y.big=true→decide ((D:Int).tmod 2097152>0)=false:=fun e=>by
     rw[e]at f2;have f2:D%2097152=0:=f2;rw[Int.tmod_eq_emod_of_nonneg χ];exact decide_eq_false χ
    obtain⟨FA,hc,hF⟩:∃FA:List (BE×Bool),(FA=[(.cmp .lss (.x 64) (.ln 2),true),(.x 72,true),(.cmp .neq (.x 80) (.x 74),false),(.x 73,true),(.cmp .gtr (.bin .rem .u64 (.x 80) (.c 2097152)) (.c 0),false)]∨FA=[(.cmp .lss (.x 64) (.ln 2),true),(.x 72,true),(.cmp .neq (.x 80) (.x 74),false),(.x 73,false)]∨FA=[(.cmp .lss (.x 64) (.ln 2),true),(.x 72,false),(.x 73,true),(.cmp .gtr (.bin .rem .u64 (.x 80) (.c 2097152)) (.c 0),false)]∨FA=[(.cmp .lss (.x 64) (.ln 2),true),(.x 72,false),(.x 73,false)])∧∀z∈FA,z.1.den (((((((cC v P).put 24 (lrD x)).put 48 (slD X)).put 64 ((slD e).cnt k)).put 72 (lI y)).put 80 (elD D 0)).put 96 (elD D y.size))=z.2:=by
     have af:decide ((k:Int)<(P.Q3.length:Int))=true:=decide_eq_true χ;have bz:y.fixed=true→((D:Int)!=(y.Q7:Int))=false:=fun e=>by rw[f1 e];simp
     cases hf:y.fixed<;>cases hb:y.big
     ·exact⟨_,.inr (.inr (.inr rfl)),fac af (fac hf (fac hb eU))⟩
     ·exact⟨_,.inr (.inr (.inl rfl)),fac af (fac hf (fac hb (fac (a0 hb) eU)))⟩
     ·exact⟨_,.inr (.inl rfl),fac af (fac hf (fac (bz hf) (fac hb eU)))⟩
     ·exact⟨_,.inl rfl,fac af (fac hf (fac (bz hf) (fac hb (fac (a0 hb) eU))))⟩
    refine az 4 τ ((8,.one (.i .u64 (.x 80)))::(9,.one (.i .u64 (.x 73)))::fx 64 7 paR) [(0,ae),(1,lrL 24),(2,[.sl 48 49 50]),(3,[.sl 64 65 66])] 6 [] hPp (by rcases hc with rfl|rfl|rfl|rfl<;>kernel_rfl) (al.more FA [] [] hF (fun y hy=>by cases hy) (fun i x hx=>by cases hx)) fun bm bo cw K U=>cW rfl ⟨rfl,y,D,bm,⟨K.has.re ⟨rfl,rfl,rfl,rfl,rfl,rfl,rfl,trivial⟩,K.mem,Rs.noC _ _ _ _ _,K.tb,K.gh⟩,fun r (W:r<4)=>(U.upto r (by show r<6;omega)).trans ((eo r (by show r<5;omega)).trans (eg r W)),U.keep,U.agree⟩
   ·obtain rfl:k=P.Q3.length:=χ
    have E:=kj O.len;rw[V]at E;simp only[Option.some.injEq,Prod.mk.injEq]at E;obtain⟨rfl,rfl⟩:=E;have Q:=(((ad.lay 72 (lI rg0) δ).lay 80 (elD 0 0) δ).lay 96 (elD l.image (l.pages*4096)) δ).more [(.cmp .lss (.x 64) (.ln 2),false)] [] [] (fa1 (by show decide ((P.Q3.length:Int)<(P.Q3.length:Int))=false;exact decide_eq_false χ)) (fun y hy=>by cases hy) (fun i x hx=>by cases hx);have cm:Now _ κ7 105 Tryz.prog { FA:=[(.cmp .lss (.x 64) (.ln 2),false)] } H0 ⟨fx 64 7 paR,(3,[.sl 64 65 66])::paM,6,[]⟩ a8 w8:=⟨Q.has,Q.mem,Q.ctx,Q.tb,Q.gh⟩;refine az 4 τ ((8,.one (.i .u64 (.x 24)))::(9,.one (.i .u64 (.bin .mul .u64 (.cv .u64 (.x 25)) (.c 4096))))::fx 64 7 paR) [(0,ae),(1,lrL 24),(2,[.sl 48 49 50]),(3,[.sl 64 65 66])] 6 [] hPp δ cm fun bm bo cw K U=>cW rfl ⟨rfl,rg0,0,bm,⟨K.has.re ⟨congrArg (Value.int .u64) ?_,congrArg (Value.int .u64) ?_,rfl,rfl,rfl,rfl,rfl,trivial⟩,K.mem,Rs.noC _ _ _ _ _,K.tb,K.gh⟩,fun r (W:r<4)=>U.upto r (by show r<6;omega),U.keep,U.agree⟩
    ·show(x.im:Int)=(l.image:Int)
     rw[d2]
    ·show IntKind.u64.wrap (IntKind.u64.wrap x.pg*4096)=((l.pages*4096:Nat):Int)
     rw[d3,bR (x:=(l.pages:Int)) χ,bR χ];omega
  ·rw[hJ]at hj
   obtain⟨y,p,fd,Q,ee,d8,c5⟩:=hj;clear hJ ac ad;refine az 1 τ ((8,.one (.i .u64 (.x 96)))::(9,.one (.i .u64 (.x 97)))::(10,.one (.p 6 0))::fx 64 7 paR) [(0,ae),(1,lrL 24),(2,[.sl 48 49 50]),(3,[.sl 64 65 66]),(6,[.i .u64 (.x 96),.i .u64 (.bin .sub .u64 (.bin .add .u64 (.x 96) (.x 97)) (.c 1))])] 7 [] hPp δ Q fun cy eu e8 be bf=>?_
   have e9:∀κ,SV.den (((((((cC v P).put 24 (lrD x)).put 48 (slD X)).put 64 ((slD e).cnt k)).put 72 (lI y)).put 80 (elD p 0)).put 96 (elD D C)) κ paX=.agg #[.int .u64 D,.int .u64 ((D+C-1:Nat):Int)]:=fun κ=>by
    show Value.agg #[.int .u64 (D:Int),.int .u64 (IntKind.u64.wrap (IntKind.u64.wrap ((D:Int)+(C:Int))-1))]=_;rw[bR (x:=(D:Int)+C) χ,bR χ,show((D:Int)+C-1)=((D+C-1:Nat):Int) by omega]
   have a1:=K3 d8 bf.keep;have b6:∀r,r<4→cy r=κ7 r:=fun r W=>(bf.upto r (by show r<6;omega)).trans (ee r W)
   refine az 2 τ ((10,.one (.p 6 0))::fx 64 7 paR) [(3,[.sl 64 65 66]),(6,[.i .u64 (.x 96),.i .u64 (.bin .sub .u64 (.bin .add .u64 (.x 96) (.x 97)) (.c 1))])] 7 [] hPp δ (be.more [(.cmp .gtr (.bin .rem .u64 (.x 96) (.c 4096)) (.c 0),false),(.cmp .eql (.x 97) (.c 0),false)] paC [] (vc (by
    show decide ((D:Int).tmod 4096>0)=false;rw[Int.tmod_eq_emod_of_nonneg χ];exact decide_eq_false χ) (by
    show((C:Int)==0)=false;simp;omega)) (fun z hz w' hw=>by
    have hK:=K3 a1 hw
    rcases Ξ.1 hz with rfl|hz
    ·have:=ku (av.box (c7.keep hK) (bs.keep hK fun h=>h)) c8.ok D (D+C-1) (by unfold lim;omega) (by unfold lim;omega) (bs.keep hK fun h=>h).lt
     rw[fE.2 fun q q1 q2=>(c9 q).2 (s3 q q1 χ)]at this;show Calls Tryz.prog 61 #[.agg #[.slice X.A X.n X.c],SV.den _ _ paX] w' _;rw[e9];exact this
    ·obtain rfl:=ρ.1 hz
     have:=nD (r3.keep hK) r5.ok (x:=(D,D+C-1)) (by show D<lim;unfold lim;omega);show Calls Tryz.prog 62 #[.agg #[.slice e.A e.n e.c],SV.den _ _ paX] w' _;rw[e9];refine this.mono fun en cv ⟨⟨bb,q1,q2⟩,q3⟩=>⟨?_,q3⟩
     have:bb=false:=by
      cases bb with
      | false=>rfl
      | true =>
       obtain⟨q,z1,z2,z3⟩:=q2.1 rfl;have z2:q≤D+C-1:=z2;exact absurd ((r6 q).1 z3) (O.fresh V q z1 χ).2
     rw[q1,this];rfl) (fun i x hx=>by cases hx)) fun bl ew eq al an=>?_
   have N:=K3 a1 an.keep;have ca:bl 3=(H,0):=((an.upto 3 ψ).trans (b6 3 ψ)).trans bd;have cx:w3.heap.size≤eq.heap.size:=by have:=Y.size;have:=N.size;omega
   refine Cn 2 63 3 (.ag [.sl 64 65 66]) paX (fx 64 7 paR) (tak P l (k+1)) w3 H δ al (fun _ h=>h) ca ⟨_,r1.keep N fun h=>h⟩ cx (fun w' hw=>?_) fun bo cw bp c6 cb c4=>cW rfl ?_
   ·rw[e9]
    refine(l8 (x:=(D,D+C-1)) (r3.keep (K3 N hw)) r5 ⟨by show D<lim;unfold lim;omega,by show D+C-1<lim;unfold lim;omega,fun _=>⟨s1,by
     have hs:C%4096=0:=by
      rcases gv O.len V with⟨y',_,d7,_,rfl⟩|⟨_,_,rfl⟩
      ·exact(hg.reg y' (γ d7)).1
      ·omega
     show(D+C-1+1)%4096=0;omega,by show D+C-1<4294967296;omega⟩⟩).mono fun e2 cv ⟨u2,ed,z1,z2,z3,z4,z5,z6⟩=>⟨u2,ed,z1,z2,z3,z4,fun q=>(z5 q).trans ?_,z6⟩
    show aW L' q∨(D≤q∧q≤D+C-1)↔tak P l (k+1) q;rw[sJ V,←r6];constructor
    ·rintro(h|h)
     ·exact .inl h
     ·exact .inr χ
    ·rintro(h|h)
     ·exact .inl h
     ·exact .inr χ
   ·obtain⟨e',ds⟩:=c6.e
    refine⟨e',bl,⟨(hG.keep N).other cb (fun e=>by have e:bg=H:=e;omega) fun g o hg hn=>dt g o hg hn,ds⟩,fun r (W:r<4)=>(an.upto r (by show r<7;omega)).trans (b6 r W),bp.re ⟨rfl,rfl,rfl,rfl,rfl,trivial⟩,(((hA.trans c5 fun _ h=>h).trans bf.agree fun _ h=>h).trans an.agree fun _ h=>h).trans ⟨bp.size.trans al.has.size.symm,c4,fun _ h=>by cases h⟩ fun _ h=>h,(Y.trans (K_T N) fun _ _ h=>h).trans cb fun _ _ h=>h⟩
 ·refine dZ 2 τ [(4,.one (.b (.c true)))] [] 4 [] hPp δ ac fun κ8 a9 w9 ad cp=>?_
  refine fX 4 rfl ad.has rfl (cp.agree.defers.trans (hA.defers.trans dk)) ?_;rw[hR];have Y:aD (fun g=>g=H) w7 w8:=hK;have cs:aD (fun g=>g=H) w8 w9:=cp.keep;exact⟨rfl,aR b3 (Y.trans cs fun _ _ h=>h) fun g hg=>by rw[show g=H from hg];exact d1⟩
end Rs
section
open Go.RowKit Ck
theorem ak.mono{B B':Nat}{w:World}{v:aY}{P:aF}(h:ak B w v P)(d:B≤B'):ak B' w v P:=
 (h.in_.same (fun _ _ g=>Θ g d) (fun _=>jj.refl)).below
end
namespace Rs
open Go.RowKit Go.IntWalk Ck
theorem AU{P:Program}{ops:Array Oper}{Q:Exit→Act→World→Prop}{l m:List Oper}{a:Act}{w:World}(n:Nat)(h:wpList P ops Q (l.take n++(l.drop n++m)) a w):wpList P ops Q (l++m) a w:=by
 rw[←List.append_assoc,List.take_append_drop]at h;exact h
variable {W:World} {b k:Nat}
theorem pZ{o:Nat}{cs:Array Value}{t:TypeId}{vs:List Value}(h:W.heap[b]?=some (.cells cs t (0,0)))(e:(cs.toList.drop o).take vs.length=vs):aK W b o vs:=fun j v d=>by
 have g:=(ο.1 d).1;refine jc h ?_;rw[←e,List.getElem?_take_of_lt g,List.getElem?_drop,Array.getElem?_toList]at d;exact d
theorem uz{α:Type}{R:World→Nat→Nat→α→Prop}{x:α}(g:b<W.heap.size)(h:R W b 0 x):aM W.heap.size k R W (.slice (some ⟨b,0,none⟩) 1 1) [x]:=
 ⟨_,1,rfl,Γ 1,(by decide:1≤top),fun _=>⟨b,0,rfl,g,fun i y d=>by
  match i,d with
  | 0,d =>
   obtain rfl:=ι d;rw[Nat.zero_mul];exact h⟩⟩
theorem iI{α:Type}{B:Nat}{R:World→Nat→Nat→α→Prop}:aM B k R W (.slice none 0 0) ([]:List α):=⟨none,0,rfl,Γ _,(by decide:0≤top),fun h=>absurd h (Nat.lt_irrefl 0)⟩
theorem gX{w:World}{o x:Obj}(h:w.heap[k]?=some x):(w.alloc o).heap[k]?=some x:=(((aD.refl (fun _=>False) w).alloc o).block k (ϱ.1 h).1 id).trans h
theorem pc{w:World}{o:Obj}(h:k=w.heap.size):(w.alloc o).heap[k]?=some o:=by subst h;exact heap_alloc_new _ _
theorem lk(w:World)(o:Obj):(w.alloc o).heap.size=w.heap.size+1:=ξ
theorem al5(w:World)(d g h j l:Obj):∃W,W=((((w.alloc d).alloc g).alloc h).alloc j).alloc l∧Kz w W∧W.heap.size=w.heap.size+5∧W.heap[w.heap.size]?=some d∧W.heap[w.heap.size+1]?=some g∧W.heap[w.heap.size+1+1]?=some h∧W.heap[w.heap.size+1+1+1]?=some j∧W.heap[w.heap.size+1+1+1+1]?=some l:=by
 refine⟨_,rfl,(((((aD.refl _ _).alloc _).alloc _).alloc _).alloc _).alloc _,?_,?_,?_,?_,?_,?_⟩
 ·simp only[lk]
 ·exact gX (gX (gX (gX (pc rfl))))
 ·exact gX (gX (gX (pc (by simp only[lk]))))
 ·exact gX (gX (pc (by simp only[lk])))
 ·exact gX (pc (by simp only[lk]))
 ·exact pc (by simp only[lk])
def D8(b:Nat):Sta where
 o j:=match j with|0 =>.slice (some ⟨b+1,0,none⟩) 1 1|1 =>.slice (some ⟨b+1+1,0,none⟩) 2 2|2 =>.slice (some ⟨b+1+1+1,0,none⟩) 1 1|_ =>.slice (some ⟨b+1+1+1+1,0,none⟩) 1 1
def smZ:Cl := .l (.slice none 0 0)
def smC:List Cl:=[.i .i64 (.c 0),.s (.c ⟨#[]⟩),.v 0,smZ,.v 1,smZ,smZ,smZ,smZ,.v 2,smZ,.v 3,smZ,smZ]
def smV(b:Nat):aY:=⟨.slice (some ⟨b+1,0,none⟩) 1 1,.slice none 0 0,.slice (some ⟨b+1+1,0,none⟩) 2 2,.slice none 0 0,.slice none 0 0,.slice none 0 0,.slice none 0 0,.slice (some ⟨b+1+1+1,0,none⟩) 1 1,.slice none 0 0,.slice (some ⟨b+1+1+1+1,0,none⟩) 1 1,.slice none 0 0,.slice none 0 0⟩
theorem rO(x:UInt8):aU ⟨#[x]⟩:=by unfold aU;show(1:Nat)≤_;decide
theorem Ci:fG 0:=⟨ψ,ψ⟩
theorem EZ:0<lim:=ψ
theorem ud:aU ByteArray.empty:=by unfold aU;decide
structure BL (sz:Nat) (W:World) (b:Nat):Prop where
 lt:b+1+1+1+1<W.heap.size
 Qe:aK W (b+1) 0 (Ck.Ram.cells ⟨0,65536,40960⟩)
 regA:aK W (b+1+1) 0 (smA sz).cells
 regB:aK W (b+1+1) 10 smB.cells
 plan:aK W (b+1+1+1) 0 [.int .i64 0,.string ⟨#[112]⟩,.int .u64 1,.slice none 0 0]
 pick:aK W (b+1+1+1+1) 0 (Ck.ii.cells ⟨0,⟨#[112]⟩⟩)
 row:∃cs E0,W.heap[b+1+1]?=some (.cells cs E0 (0,0))
theorem BL.Q3{sz:Nat}{W:World}{b:Nat}(h:BL sz W b)(g:sz<lim):aM W.heap.size 10 jl W (.slice (some ⟨b+1+1,0,none⟩) 2 2) [smA sz,smB]:=by
 have:=h.lt;refine⟨_,2,rfl,Γ 2,(by decide:2≤top),fun _=>⟨_,0,rfl,χ,fun i y d=>?_⟩⟩
 match i,d with
 | 0,d =>
  obtain rfl:=ι d;exact⟨h.regA,Ci,g,EZ,EZ,rO _,ud⟩
 | 1,d =>
  obtain rfl:=ι d;exact⟨h.regB,⟨ψ,ψ⟩,ψ,ψ,ψ,rO _,ud⟩
theorem BL.QT{sz:Nat}(h:BL sz W b)(d:sz<lim):ak W.heap.size W (smV b) (smP sz smQ):=by
 have:=h.lt;exact⟨uz χ ⟨h.Qe,⟨ψ,ψ⟩,ψ,ψ⟩,iI,h.Q3 d,iI,iI,iI,iI,uz χ ⟨_,h.plan,iI,⟨ψ,ψ⟩,ψ,rO _⟩,iI,uz χ ⟨h.pick,⟨ψ,ψ⟩,rO _⟩,iI,iI,Ci,ud⟩
theorem qa(w:World):Calls Tryz.prog 17 #[] w fun e w'=>∃b,e=.returned (.agg (aY.cells (smV b) (smP 8192 smQ)).toArray)∧w.heap.size≤b∧Kz w w'∧BL 8192 w' b:=by
 go_enter Tryz.func17,Tryz.ntmps17
 go_wp2
 generalize hc0 : #[Value.int IntKind.i64 0,Value.string { data := #[] },Value.slice (some { block:=w.heap.size+1,off:=0 }) 1 1,Value.slice none 0 0,Value.slice (some { block:=w.heap.size+1+1,off:=0 }) 2 2,Value.slice none 0 0,Value.slice none 0 0,Value.slice none 0 0,Value.slice none 0 0,Value.slice (some { block:=w.heap.size+1+1+1,off:=0 }) 1 1,Value.slice none 0 0,Value.slice (some { block:=w.heap.size+1+1+1+1,off:=0 }) 1 1,Value.slice none 0 0,Value.slice none 0 0]=c0
 generalize hc1 : #[Value.int IntKind.i64 0,Value.int IntKind.u64 65536,Value.int IntKind.u64 40960]=c1
 generalize hc2 : #[Value.int IntKind.i64 0,Value.string { data := #[97] },Value.int IntKind.u64 8192,Value.bool false,Value.int IntKind.u64 0,Value.bool false,Value.bool false,Value.int IntKind.u64 0,Value.bool false,Value.string { data := #[] },Value.int IntKind.i64 0,Value.string { data := #[98] },Value.int IntKind.u64 12288,Value.bool true,Value.int IntKind.u64 65536,Value.bool false,Value.bool false,Value.int IntKind.u64 0,Value.bool false,Value.string { data := #[] }]=c2
 generalize hc3 : #[Value.int IntKind.i64 0,Value.string { data := #[112] },Value.int IntKind.u64 1,Value.slice none 0 0]=c3
 generalize hc4 : #[Value.int IntKind.i64 0,Value.string { data := #[112] }]=c4
 obtain⟨W,q,hk,H,x,y,h,B,C⟩:=al5 w (.cells c0 33) (.cells c1 91) (.cells c2 53) (.cells c3 68) (.cells c4 47);rw[←q];clear q;refine oX (S:=D8 w.heap.size) (κ:=fun _=>(w.heap.size,0)) (N:=11) (F:=[(0,.one (.p 0 0))]) (M:=[(0,smC)]) (v := .ag smC) (t:=0) (r:=0) (E:=33) rfl ⟨rfl,fun t u g=>?_⟩ rfl δ ?_ rfl ?_
 ·rw[bU]at g
  split at g
  ·rename_i e;subst e;obtain rfl:=ι g;rfl
  ·cases g
 ·intro r l d
  rw[cN]at d;split at d
  ·rename_i e;subst e;obtain rfl:=ι d
   intro j c D;refine jc x ?_;subst hc0;have:(smC.map (Cl.den (D8 w.heap.size) fun _=>(w.heap.size,0)))[j]?=some (c.den (D8 w.heap.size) fun _=>(w.heap.size,0)):=by rw[List.getElem?_map,D];rfl
   show _[0+j]?=_;rw[Nat.zero_add,←Array.getElem?_toList];exact this
  ·cases d
 ·refine⟨w.heap.size,rfl,Γ _,hk,?_⟩
  subst hc1 hc2 hc3 hc4;exact⟨χ,pZ y rfl,pZ h rfl,pZ h rfl,pZ B rfl,pZ C rfl,_,_,h⟩
end Rs
namespace Ck
variable {sz:Nat} {st:List ii}
theorem D9(q:Nat):cX (smP sz st) q↔65536≤q∧q<106496:=by
 unfold cX rng;constructor
 ·rintro⟨r,h,d,g,j⟩
  obtain rfl:=ρ.1 h;exact⟨d,g⟩
 ·exact fun⟨d,g⟩=>⟨_,ρ.2 rfl,d,g,χ⟩
theorem nf(q:Nat):cE (smP sz st) q↔77824≤q∧q<106496:=by
 unfold cE;rw[D9];constructor
 ·rintro⟨⟨g,h⟩,j⟩
  have:=j smB (List.mem_cons_of_mem _ (ρ.2 rfl)) rfl;unfold rng at this;have:¬ (65536≤q∧q<65536+12288∧q<4294967296):=this;omega
 ·rintro⟨g,h⟩
  refine⟨χ,fun x d l=>?_⟩
  rcases Ξ.1 d with rfl|d
  ·cases l
  ·obtain rfl:=ρ.1 d
   unfold rng;show ¬ (65536≤q∧q<65536+12288∧_);omega
theorem zS:fA (smP 8192 st) 1=(some ⟨[77824,65536],86016,1⟩, -1,0):=by
 have j:fit (cE (smP 8192 st)) 8192 4096=some 77824:=fq.2 ⟨ψ,⟨⟨19,rfl⟩,fun q g d=>(nf q).2 χ⟩,fun q u ⟨_,h⟩=>by
  have:=(nf q).1 (h q (Γ _) χ);omega⟩
 have l:fit (off (cE (smP 8192 st)) 77824 8192) (1*4096) 4096=some 86016:=fq.2 ⟨ψ,⟨⟨21,rfl⟩,fun q g d=>⟨(nf q).2 χ,by unfold rng;omega⟩⟩,fun q u ⟨_,h⟩=>by
  have h:=h q (Γ _) χ;have g:=(nf q).1 h.1;have d:=h.2;unfold rng at d;omega⟩
 have h:gG (cE (smP 8192 st)) [] (smP 8192 st).Q3=.inr ([77824,65536],off (cE (smP 8192 st)) 77824 8192):=by
  show gG _ [] [smA 8192,smB]=_;rw[gG,if_neg ψ];show(match fit (cE (smP 8192 st)) 8192 4096 with|some p=>gG (off (cE (smP 8192 st)) p 8192) ([]++[p]) [smB]|none =>.inl 0)=_;rw[j];rfl
 unfold fA;rw[h];show(match fit (off (cE (smP 8192 st)) 77824 8192) (1*4096) 4096 with|none=>((none:Option Lay),(-1:Int),(110:Int))|some p=>(some (⟨[77824,65536],p,1⟩:Lay), -1,0))=_;rw[l]
theorem uY(h:mN (smP sz st) (smA sz)=[]):fY (smP sz st)=[]:=by
 have j:eV [⟨0,65536,40960⟩] 65536 (d6 65536 12288)=true:=by
  unfold eV;simp only[decide_eq_true_eq];intro p g d;exact⟨_,ρ.2 rfl,g,Δ d ψ⟩
 have l:kq (smP sz st) smB=[]:=by
  unfold kq;rw[if_pos (show smB.fixed=true from rfl)];show say (_||(_&&eV [⟨0,65536,40960⟩] 65536 (d6 65536 12288))) _ _=[];rw[j];rfl
 have d:mN (smP sz st) smB=[]:=by
  unfold mN;rw[l];rfl
 show(mN (smP sz st) (smA sz)++(mN (smP sz st) smB++[]))++dW 3 (smP sz st).fixed=[];rw[h,d];rfl
theorem oP:iz (d5 gW) aX (smP 8192 smQ):=by
 intro g d;simp only[dV,List.mem_cons,List.mem_nil_iff,or_false]at d
 rcases d with rfl|rfl|rfl|rfl|rfl|rfl|rfl|rfl
 ·show ke (d5 gW) (smP 8192 smQ)=[];kernel_rfl
 ·show gR (smP 8192 smQ)=[];kernel_rfl
 ·show vm (smP 8192 smQ)=[];kernel_rfl
 ·exact uY δ
 ·show lQ (smP 8192 smQ)=[];kernel_rfl
 ·show uO (smP 8192 smQ)=[];kernel_rfl
 ·show kc (fun M y=>(aX M y).2) (smP 8192 smQ)=[];kernel_rfl
 ·show me aX (smP 8192 smQ)=[];kernel_rfl
theorem zR(sz:Nat):pages aX (smP sz st)=1:=δ
end Ck
namespace Rs
open Go.RowKit Ck
theorem ma:∀(l:List Region) (S:PS) (out:List Nat) (i:Nat),gG S out l=.inl i→i<out.length+l.length
 | [],_,_,_,h=>by cases h
 | x::l,S,out,i,h=>by
  rw[gG]at h;split at h
  ·have:=ma l _ _ _ h
   simp only[List.length_append,List.length_cons,List.length_nil]at this⊢;omega
  ·split at h
   ·have:=ma l _ _ _ h
    simp only[List.length_append,List.length_cons,List.length_nil]at this⊢;omega
   ·cases h
    simp only[List.length_cons];omega
theorem vQ{P:aF}{pg:Nat}{n e:Int}(h:fA P pg=(none,n,e)):e=110 ∧ -1≤n∧n<P.Q3.length∨e=110∧n = -1:=by
 unfold fA at h;split at h
 ·rename_i i hi
  cases h
  have:=ma _ _ _ _ hi;simp only[List.length_nil]at this;exact .inl ⟨rfl,χ,χ⟩
 ·split at h
  ·cases h
   exact .inr ⟨rfl,rfl⟩
  ·cases h
section
variable {named:ByteArray→Bool} {flat:Nat→cK→Nat×Int×Int} {P:aF}
theorem sK(h:BQ named flat P){dev:Bool}{l:List Ck.Map}(u:∀m∈l,has P.things m.of=true)(v:kC P dev l):0<bQ P l:=by
 unfold bQ;rw[if_pos]
 ·omega
 ·rw[List.all_eq_true]
  intro m j;obtain⟨t,q⟩:=rH (u m j);have e:aQ P m.of=t:=by unfold aQ;rw[q];rfl
  have d:=sF h.bus h.Q3 m.of;have g:=(v.one m j).2.1;rw[e]at d g;unfold dL;rw[q];simp only[Bool.and_eq_true,decide_eq_true_eq];exact⟨d,jy.2 g⟩
theorem qg(h:BQ named flat P):1≤pages flat P:=by
 unfold pages;rw[if_pos]
 ·have:248≤dj flat P:=by unfold dj;omega
  omega
 ·rw[List.all_eq_true]
  intro l d;rw[decide_eq_true_eq];unfold aF.tabled at d
  rcases Ω.1 d with d|d
  ·obtain⟨x,g,rfl⟩:=List.mem_map.1 d
   exact sK h (h.names.Qg x g) (h.QP x g)
  ·obtain⟨x,g,rfl⟩:=List.mem_map.1 (List.mem_filter.1 d).1
   exact sK h (fun m j=>vV (h.names.Qh x g m j)) (h.QR x g)
end
def ppV(x:LrE)(i:Nat)(w:World)(u:Value):Prop:=match i with
 | 3=>∃b,u=.agg (aY.cells (smV b) (smP 8192 smQ)).toArray∧ak w.heap.size w (smV b) (smP 8192 smQ)
 | 4=>u=nY (.slice x.A x.n x.c) x.im x.pg
 | 5=>u=.bool true
 | _=>u=.bool false
def ppF:Fr:=[(3,.one (.p 1 0)),(1,.one (.p 0 0))]
theorem uo{B:Nat}{w:World}{v:aY}{P:aF}(h:ak B w v P)(a0:gI B w)(hB:B≤w.heap.size):
 Calls Tryz.prog 7 #[.agg (v.cells P).toArray] w fun e w'=>e=.returned (.bool true)∧Kz w w':=by
 obtain⟨R,hR⟩:∃R:Ending→World→Prop,R=fun e w'=>e=.returned (.bool true)∧Kz w w':=⟨_,rfl⟩
 rw[←hR];have cv:P.Q3.length≤2097152:=by obtain⟨_,_,_,_,hl,_⟩:=h.Q3;exact hl
 obtain⟨ok,X⟩:∃b:Bool,(b=true↔iz (d5 gW) aX P):=by
  classical exact⟨decide (iz (d5 gW) aX P),decide_eq_true_iff⟩
 refine fnE (cC v P) (fun _=>(0,0)) [.ag ae] Tryz.func7 Tryz.ntmps7 rfl (by rw[List.map_cons,bB h (Agr.refl _ _)];rfl) ψ H0 (fun _ h=>h.elim) trivial fun a hd hh=>?_
 refine az 1 τ [(1,.one (.p 0 0))] [(0,ae)] 1 [] hPp δ hh fun κ1 a1 w1 n1 p1=>?_
 -- Lay(small())
 refine Co 1 (wk 0 17 [] (.ag (Br 40)) 40 (fun d w'=>∃b,d=cC (smV b) (smP 8192 smQ)∧ak w'.heap.size w' (smV b) (smP 8192 smQ)∧w1.heap.size≤w'.heap.size) τ [(8,.ag (Br 40)),(1,.one (.p 0 0))] [(0,ae)] 1 δ n1 (fun w' E=>(qa w').mono fun en Y ⟨b,e1,_,Z,e3⟩=>⟨_,⟨b,rfl,e3.QT ψ,by have:=E.size;have:=Z.size;omega⟩,by rw[e1,sZ (e3.QT ψ)],Z⟩) fun κ2 a2 w2 d cs ⟨b,b0,ca,cw⟩ bc n2 p2=>?_);subst b0;have bo:=p1.keep;have cy:B≤w1.heap.size:=by have:=bo.size;omega
 have ad:=ak.kept ca (Γ _) bc;have an:=K3 bo p2.keep;refine AU 1 (wk 0 16 [.ag (Br 40)] (.one (.v 72)) 72 (fun d w'=>∃x,d=lrD x∧LyR (smP 8192 smQ) true 1 x w') τ [(9,.one (.v 72)),(1,.one (.p 0 0))] [(0,ae)] 1 δ n2 (fun w' E=>?_) fun κ3 a3 w3 d c4 ⟨W,b1,cb⟩ cc n3 p3=>?_)
 ·rw[List.map_cons,sZ ad]
  have N:=K3 an E;have:=wn (ak.kept ad bc.size E) (gI.kept a0 hB N (B':=cs.heap.size) χ) (by have:=bc.size;have:=E.size;omega) (ok:=true) ⟨fun _=>oP,fun _=>rfl⟩;rw[zR]at this;exact this.mono fun en Y ⟨x,e1,Z,e3,_⟩=>⟨_,⟨x,rfl,Z⟩,e1,e3⟩
 subst b1;refine EW (CL:=DU 72 7 10 11 12) τ ((4,.one (.i .i64 (.x 74)))::(5,.one (.i .i64 (.x 75)))::ppF) [(0,ae),(1,lrL 72)] 2 [] δ n3 (fun o ho=>List.mem_of_mem_drop (List.mem_of_mem_drop ho)) (wi W rfl rfl rfl rfl rfl rfl rfl) fun κ4 a4 w4 n4 p4=>ln (show wpL _ _ _ _ _ from ?_)
 obtain⟨z1,z2,z3⟩:=p4.new.row n4.mem (r:=1) rfl ψ ψ;have bb:=(cb.keep cc).keep p4.keep;unfold LyR at bb;rw[zS]at bb;obtain⟨v1,v2,v3,v4,v5,v6⟩:=bb;have b4:Kz w w4:=K3 (K3 an p3.keep) p4.keep;have b5:=mP (co oP) ψ zS;have n5:=n4.more [(.cmp .neq (.x 75) (.c 0),false)] [] [] (fa1 (by show(W.e !=0)=false;rw[v4];rfl)) (fun y hy=>by cases hy) (fun i x hx=>by cases hx);refine Cr 3 7 ((15,.one (.b (.cmp .neq (.x 75) (.c 0))))::ppF) (ppV W) hPp δ n5 (fun j w' Y u hk L=>?_) (fun q o h3 h7 ho a' w' K hk hF L hK=>?_) fun o ho a7 w7 hk hb hF L=>?_
 ·match j,L with
  | 3,⟨b,U,V⟩=>exact⟨b,U,(ak.kept V (Γ _) hk).mono hk.size⟩
  | 0,L=>exact L
  | 1,L=>exact L
  | 2,L=>exact L
  | 4,L=>exact L
  | 5,L=>exact L
  | j+6,L=>exact L
 ·rcases(by omega:q=3∨q=4∨q=5∨q=6)with rfl|rfl|rfl|rfl
  ·obtain rfl:=ι ho
   unfold Oper.wp;rw[execOp_call_go,bh δ];rw[show(#[]++(#[]:Array Operand).map a'.eval ++ #[]:Array Value) = #[] from ξ];refine(qa w').mono fun en Y ⟨b,e1,_,Z,e3⟩=>?_
   subst e1;exact hK _ _ Z ⟨b,rfl,e3.QT ψ⟩
  ·obtain rfl:=ι ho
   have al:Has _ κ4 79 [(3,SV.one (.p 1 0))] a':=⟨hF.size,fun t u ht=>by
    rw[bU]at ht;split at ht
    ·rename_i e;subst e;obtain rfl:=ι ht
     exact hF.get 3 _ δ
    ·cases ht⟩
   unfold Oper.wp;rw[kd (P:=Tryz.prog) (C:={}) (H:=H0) (F:=[(3,.one (.p 1 0))]) (M:=[(0,ae),(1,lrL 72)]) (v := .ag (lrL 72)) δ al (by rw[List.append_nil];exact(n4.mem.keep hk).f) (Rs.noC _ _ _ _ _)];exact hK _ _ (aD.refl _ _) rfl
  ·obtain rfl:=ι ho
   obtain⟨u1,J,b,rfl,hp⟩:=L 3 16 χ χ δ rfl;obtain⟨u2,bg,a6⟩:=L 4 17 χ χ δ rfl;have a6:u2=nY (.slice W.A W.n W.c) W.im W.pg:=a6;subst a6;unfold Oper.wp;rw[execOp_call_go,bh δ];rw[show(#[]++(#[Operand.tmp 16,Operand.tmp 17]:Array Operand).map a'.eval ++ #[]:Array Value) = #[a'.eval (.tmp 16),a'.eval (.tmp 17)] from ξ,J.eval (by rw[hF.size];decide),bg.eval (by rw[hF.size];decide)];refine(qf hp (Γ _) oP b5.1 v1 v2 v5 (v6.keep hk)).mono fun en Y ⟨e1,Z⟩=>?_
   subst e1;exact hK _ _ Z rfl
  ·obtain rfl:=ι ho
   obtain⟨u1,J,O⟩:=L 5 18 χ χ δ rfl;have O:u1=.bool true:=O;subst O;have al:Has ({}:Sta) κ4 79 [(18,SV.one (.b (.c true)))] a':=fC ⟨hF.size,fun t u ht=>by cases ht⟩ (by rw[Array.getElem?_eq_getElem (by rw[hF.size];decide),J];rfl);unfold Oper.wp;rw[kd (P:=Tryz.prog) (C:={}) (H:=H0) (F:=[(18,.one (.b (.c true)))]) (M:=[]) (v := .one (.b (.not (.c true)))) δ al (fun _ _ h=>by cases h) (Rs.noC _ _ _ _ _)];exact hK _ _ (aD.refl _ _) rfl
 ·obtain rfl:=ι ho
  obtain⟨u1,J,O⟩:=L 6 19 χ χ rfl;have O:u1=.bool false:=O;subst O;have f1:=fC (t:=19) (v := .one (.b (.c false))) hF (by rw[Array.getElem?_eq_getElem (by rw[hF.size];decide),J];rfl);have bs:=K3 b4 hk;have hm:=n4.mem.keep hk;refine b7 rfl fun K hK=>?_
  unfold Oper.wp;rw[kd (P:=Tryz.prog) (C:={ FA:=[(.cmp .neq (.x 75) (.c 0),false)] }) (H:=H0) (F:=(19,.one (.b (.c false)))::(15,.one (.b (.cmp .neq (.x 75) (.c 0))))::ppF) (M:=[]) (v := .one (.b (.c false))) δ f1 (fun _ _ h=>by cases h) ⟨n5.ctx.fa,ξ,ξ,ξ,(fun _ _ _ _ r l h=>by cases h),ξ⟩];refine hK _ _ (ln (show wpL _ _ _ _ _ from ?_));have f2:=f1.put (d:=20) (v := .one (.b (.c false))) ψ;have n7:Now _ κ4 79 Tryz.prog {} H0 ⟨(20,.one (.b (.c false)))::(19,.one (.b (.c false)))::(15,.one (.b (.cmp .neq (.x 75) (.c 0))))::ppF,[(0,ae),(1,lrL 72)],2,[]⟩ _ w7:=⟨f2,hm,Rs.noC _ _ _ _ _,(fun _ h=>h.elim),trivial⟩;have d7:(a7.put (some 20) (SV.den (((cC v P).put 40 (cC (smV b) (smP 8192 smQ))).put 72 (lrD W)) κ4 (.one (.b (.c false))))).defers=a4.defers:=hb.defers;refine cM false n7 rfl rfl (gJ ?_);clear L hK K f1 f2 n5 J;have x4:=z1.keep hk fun h=>h
  refine Co 2 (wk 1 16 [.ag ae] (.one (.v 80)) 80 (fun d w'=>∃x,d=lrD x∧LyR P ok (pages aX P) x w'∧∀g o,x.A=some ⟨g,o,none⟩→0<x.n→w7.heap.size≤g) τ ((23,.one (.v 80))::ppF) [(0,ae),(1,lrL 72)] 2 δ (n7.sub (F':=ppF) δ) (fun w' E=>?_) fun κ8 a8 w8 d c5 ⟨D,b2,I,b3⟩ cd n8 p8=>?_)
  ·rw[List.map_cons,bB h ((lr ψ).trans (lr ψ))]
   have N:=K3 bs E;exact(wn (ak.kept h hB N) (gI.kept a0 hB N (Γ _)) (by have:=N.size;omega) X).mono fun en Y ⟨x,e1,Z,e3,e4⟩=>⟨_,⟨x,rfl,Z,fun g o U V=>by have:=e4 g o U V;have:=E.size;omega⟩,e1,e3⟩
  subst b2;have I:=I.keep cd;have l3:(κ3 0).1<w3.heap.size:=(n3.mem.get 0 _ rfl).1.1;have cj:κ8 0=κ3 0:=(p8.upto 0 ψ).trans (p4.upto 0 ψ);have be:κ8 1=κ4 1:=p8.upto 1 ψ;refine AV (CL:=DU 80 21 24 25 26) 4 1 [0] τ ((5,.one (.i .i64 (.x 83)))::(6,.one (.i .i64 (.x 82)))::ppF) [(0,ae),(1,lrL 80)] 2 [] δ n8 (fun o ho=>List.mem_of_mem_drop ho) (wi D rfl rfl rfl rfl rfl rfl rfl) (fun _=>by rw[be];exact(x4.keep p8.keep fun h=>h).some) (fun q hq=>?_) (fun _ _ _ _ _ _ _=>trivial) fun κ9 a9 w9 n9 u9 k9 g9 _ r9 _=>ln (show wpL _ _ _ _ _ from ?_)
  ·obtain rfl:=ρ.1 hq
   rw[cj,be];have:=p4.keep.size;have:=hk.size;have:=p8.keep.size;exact⟨χ,fun _=>χ⟩
  have cm:κ9 1=κ4 1:=(u9 1 ψ).trans be;rw[cm]at k9;have k9:aD (fun g=>g=(κ4 1).1) w8 w9:=k9.mono fun _ _ h=>h.elim (fun h=>h.elim) id
  have bp:Kz w w9:=aR (K3 bs p8.keep) k9 fun g hg=>by
   rw[show g=(κ4 1).1 from hg];have:=(K3 an p3.keep).size;omega
  have I:LyR P ok (pages aX P) D w9:=I.other k9 fun g o U V hg=>by
   have:=b3 g o U V;have:=x4.lt;have hg:g=(κ4 1).1:=hg;omega
  have bm:a9.defers=[]:=g9.defers.trans (p8.agree.defers.trans (d7.trans (p4.agree.defers.trans (p3.agree.defers.trans (p2.agree.defers.trans (p1.agree.defers.trans hd))))));have key:(∃FA:List (BE×Bool),(FA=[(.cmp .neq (.x 83) (.c 0),true),(.cmp .eql (.x 83) (.c 1),true),(.cmp .eql (.x 82) (.c (-1)),true),(.cmp .eql (.ln 80) (.c 0),true),(.cmp .eql (.x 80) (.c 0),true),(.cmp .eql (.x 81) (.c 0),true)]∨FA=[(.cmp .neq (.x 83) (.c 0),true),(.cmp .eql (.x 83) (.c 1),false),(.cmp .eql (.x 83) (.c 110),true),(.cmp .geq (.x 82) (.c (-1)),true),(.cmp .lss (.x 82) (.ln 2),true),(.cmp .eql (.ln 80) (.c 0),true),(.cmp .eql (.x 80) (.c 0),true),(.cmp .eql (.x 81) (.c 0),true)])∧∀y∈FA,y.1.den ((((cC v P).put 40 (cC (smV b) (smP 8192 smQ))).put 72 (lrD W)).put 80 (lrD D))=y.2)∨(ok=true∧∃l,fA P (pages aX P)=(some l, -1,0)∧D.im=l.image∧D.pg=l.pages∧D.k = -1∧D.e=0∧D.n=l.Q3.length∧uK w9 (.slice D.A D.n D.c) l.Q3):=by
   cases ok with
   | false =>
    obtain rfl:D=vO (-1) 1:=I;exact .inl ⟨_,.inl rfl,fac rfl (fac rfl (fac rfl (fac rfl (fac rfl (fac rfl eU)))))⟩
   | true =>
    unfold LyR at I;simp only at I;split at I
    ·rename_i n e hl
     subst I;have h3:e=110 ∧ -1≤n∧n<P.Q3.length:=by
      rcases vQ hl with⟨U,V,q3⟩|⟨U,V⟩
      ·exact⟨U,V,q3⟩
      ·exact⟨U,χ,χ⟩
     obtain⟨rfl,h4,h5⟩:=h3;exact .inl ⟨_,.inr rfl,fac rfl (fac rfl (fac rfl (fac (by show decide (n ≥ -1)=true;exact decide_eq_true h4) (fac (by show decide (n<(P.Q3.length:Int))=true;exact decide_eq_true h5) (fac rfl (fac rfl (fac rfl eU)))))))⟩
    ·rename_i l n e hl
     obtain⟨U,V,q3,q4,q5,q6⟩:=I;obtain⟨_,rfl,rfl,_⟩:=mP (co (X.1 rfl)) (qg (co (X.1 rfl))) hl;exact .inr ⟨rfl,l,hl,U,V,q3,q4,q5,q6⟩
  rcases key with⟨FA,hc,af⟩|⟨rfl,l,hl,U,V,q3,q4,q5,q6⟩
  ·refine dZ 2 τ [(2,.one (.b (.cmp .eql (.x 81) (.c 0))))] [] 2 [] hPp (by rcases hc with rfl|rfl<;>kernel_rfl) (n9.more FA [] [] af (fun y hy=>by cases hy) (fun i x hx=>by cases hx)) fun cu bz cp bd Q=>?_
   refine fX 2 rfl bd.has rfl (Q.agree.defers.trans bm) ?_;rw[hR];have:BE.den ((((cC v P).put 40 (cC (smV b) (smP 8192 smQ))).put 72 (lrD W)).put 80 (lrD D)) (.cmp .eql (.x 81) (.c 0))=true:=by
    rcases hc with rfl|rfl
    ·exact af (.cmp .eql (.x 81) (.c 0),true) ξ
    ·exact af (.cmp .eql (.x 81) (.c 0),true) ξ
   exact⟨congrArg (fun b=>Ending.returned (.bool b)) this,K3 bp Q.keep⟩
  ·have a5:=X.1 rfl
   obtain⟨bt,_,_,b6⟩:=mP (co a5) (qg (co (X.1 rfl))) hl;refine az 2 τ ((6,.one (.i .i64 (.x 82)))::ppF) [(0,ae),(1,lrL 80)] 2 [] hPp δ (n9.more [(.cmp .neq (.x 83) (.c 0),false)] [] [] (fa1 (by show(D.e !=0)=false;rw[q4];rfl)) (fun y hy=>by cases hy) (fun i x hx=>by cases hx)) fun cu bz cp bd Q=>?_
   have ac:=K3 bp Q.keep;have bf:Agr (lo 24) (cC v P) ((((cC v P).put 40 (cC (smV b) (smP 8192 smQ))).put 72 (lrD W)).put 80 (lrD D)):=((lr ψ).trans (lr ψ)).trans (lr ψ);refine dZ 2 τ [(2,.one (.b (.cmp .eql (.c 0) (.c 0))))] [] 2 [] hPp δ (bd.more [(.cmp .eql (.x 82) (.c (-1)),true)] [(21,[.ag ae,.ag (lrL 80)],.one (.b (.c true))),(20,[.ag ae,.ag (lrL 80)],.one (.i .i64 (.c 0)))] [] (fa1 (by show(D.k == -1)=true;rw[q3];rfl)) (fun y hy w' E=>by
    have N:=K3 ac E;have bw:=ak.kept h hB N;have bl:B≤w'.heap.size:=by have:=N.size;omega
    rcases Ξ.1 hy with rfl|hy
    ·show Calls Tryz.prog 21 #[SV.den _ _ (.ag ae),nY (.slice D.A D.n D.c) D.im D.pg] w' _
     rw[bB h bf];exact qf bw bl a5 bt U V q5 ((q6.keep Q.keep).keep E)
    ·obtain rfl:=ρ.1 hy
     show Calls Tryz.prog 20 #[SV.den _ _ (.ag ae),nY (.slice D.A D.n D.c) D.im D.pg] w' _;rw[bB h bf];exact Ah bw (gI.kept a0 hB N (Γ _)) bl a5 bt b6 U V q5 ((q6.keep Q.keep).keep E)) (fun i x hx=>by cases hx)) fun c6 cx c3 cf bx=>?_
   exact fX 2 rfl cf.has rfl (bx.agree.defers.trans (Q.agree.defers.trans bm)) (by rw[hR];exact⟨rfl,K3 ac bx.keep⟩)
end Rs
end Go.Proofs.YthobcefghkeddaaGreatDoor
namespace Go.Proofs.YthobcefghkeddaaGreatDoor
open Go.ChangeShapes Go.WideShapes Go.ChangeAt Go.RowKit Go.Deep
namespace bulks
theorem part_le{H:Type}{d:DataW H}{l:List (DataW H)}(h:d∈l):Rows.uptoBulk d≤Rows.uptoBulkAll l:=by
 induction l with
 | nil=>cases h
 | cons x r ih =>
  simp only[Rows.uptoBulkAll]
  rcases Ξ.1 h with e|e
  ·subst e;omega
  ·have:=ih e;omega
theorem DK{H:Type}(d:DataW H):1≤Rows.uptoBulk d:=by
 cases d with
 | lit l=>cases l<;>simp[Rows.uptoBulk]
 | nil=>simp[Rows.uptoBulk]
 | ptr d=>simp[Rows.uptoBulk]
 | slice elems spare=>simp[Rows.uptoBulk]
 | agg parts=>simp[Rows.uptoBulk]
 | iface t d=>simp[Rows.uptoBulk]
 | map entries=>simp[Rows.uptoBulk]
 | held h=>simp[Rows.uptoBulk]
theorem length_le{H:Type}(l:List (DataW H)):l.length≤Rows.uptoBulkAll l:=by
 induction l with
 | nil=>simp[Rows.uptoBulkAll]
 | cons x r ih=>have:=DK x;simp only[Rows.uptoBulkAll,List.length_cons];omega
theorem slice_elems{H:Type}(d spare:List (DataW H)):Rows.uptoBulkAll d+1≤Rows.uptoBulk (.slice d spare):=by
 simp only[Rows.uptoBulk];omega
theorem agg_parts{H:Type}(parts:List (DataW H)):Rows.uptoBulkAll parts≤Rows.uptoBulk (.agg parts):=by
 simp only[Rows.uptoBulk];omega
theorem short{H:Type}{s:ByteArray}{p:List MemPlace}{y:DataW H×List MemPlace}(h:y=(.lit (.string s.data.toList),p))(d:Rows.uptoBulk y.1≤1048576):aU s:=by
 subst h;simp only[Rows.uptoBulk]at d;have e:s.data.toList.length=s.size:=Array.length_toList;unfold aU;omega
end bulks
section
variable {H:Type} {enc:TypeId×Value→H} {P:Program} {w:World} {base:Nat} {spare:Nat→Bool} {held:Bool}
theorem yJ{e:TypeId}{g:Array Field}{n k:Nat}{cs:List Value}{x:DataW H×List MemPlace}(I:P.underlying e=some (.struct g))
 (l:oneCellFields P g=true)(hk:k=g.size)(E:cs.length=k)(h:DataW.trod enc P w base spare held n e cs=some x):
 ∃C,∀(j:Nat) (f:Field),g[j]?=some f→∃(v:Value) (y:DataW H×List MemPlace),cs[j]?=some v∧Rows.uptoBulk y.1≤Rows.uptoBulk x.1∧DataW.trod enc P w base spare held C f.type [v]=some y:=by
 subst hk;obtain⟨ys,C,L,Q,D,R,J⟩:=DataW.trod_struct I h;refine⟨C,fun j f u=>?_⟩;obtain⟨N,hk⟩:=hone_of l j f u;have K:j<g.size:=(ϱ.1 u).1;have O:cs[j]?=some (cs[j]' χ):=Ez χ;have q:=J j f u;rw[N,hk]at q;have d:(cs.drop j).take 1=[cs[j]' χ]:=by
  rw[List.drop_eq_getElem_cons χ];rfl
 rw[d]at q;have B:ys[j]?=some (ys[j]' χ):=Ez χ;refine⟨_,_,O,?_,q.trans B⟩;rw[Q];exact Δ (bulks.part_le (List.mem_map.2 ⟨_,List.getElem_mem _,rfl⟩)) (bulks.agg_parts _)
end
section
variable {H:Type} {enc:TypeId×Value→H} {W:World} {base:Nat}
inductive Fk where|i|u|s|b|v (t:TypeId)
namespace Fk
def Dom:Fk→Type|i=>Int|u=>Nat|s=>ByteArray|b=>Bool|v _=>Value
def ty:Fk→TypeId|i=>3|u=>41|s=>9|b=>4|v t=>t
def val:(k:Fk)→k.Dom→Value|i,n =>.int .i64 n|u,n =>.int .u64 (show Nat from n)|s,x =>.string x|b,x =>.bool x|v _,x=>x
variable (enc W base) in
def Ok:(k:Fk)→k.Dom→Prop|i,n=>fG n|u,n=>(show Nat from n)<lim|s,x=>aU x|b,_=>True|v t,x=>∃n y,Rows.uptoBulk y.1≤1048576∧DataW.trod enc Tryz.prog W base (fun _=>true) true n t [x]=some y
def Tup:List Fk→Type | []=>Unit|k::r=>k.Dom×Tup r
def vals:(ks:List Fk)→Tup ks→List Value | [],_=>[]|k::r,x=>k.val x.1::vals r x.2
variable (enc W base) in
def Oks:(ks:List Fk)→Tup ks→Prop | [],_=>True|k::r,x=>k.Ok enc W base x.1∧Oks r x.2
theorem one:∀(k:Fk) {v:Value} {y:DataW H×List MemPlace} {n:Nat},Rows.uptoBulk y.1≤1048576→DataW.trod enc Tryz.prog W base (fun _=>true) true n k.ty [v]=some y→∃a:k.Dom,v=k.val a∧k.Ok enc W base a
 | .i,z,y,n,_,t=>by
  obtain⟨a,e,_,w⟩:=DataW.trod_int Tryz.underlying3 t;exact⟨a,List.head_eq_of_cons_eq e,vq w⟩
 | .u,z,y,n,_,t=>by
  obtain⟨a,e,_,w⟩:=DataW.trod_int Tryz.underlying41 t;have:=vo w;exact⟨a.toNat,(List.head_eq_of_cons_eq e).trans (congrArg (Value.int .u64) (show a=(a.toNat:Int) by omega)),show a.toNat<lim by unfold lim;omega⟩
 | .s,z,y,n,hb,t=>by
  obtain⟨a,e,x,_⟩:=DataW.trod_string Tryz.underlying9 t;exact⟨a,List.head_eq_of_cons_eq e,bulks.short x hb⟩
 | .b,z,y,n,_,t=>by
  obtain⟨a,e,_⟩:=DataW.trod_bool Tryz.underlying4 t;exact⟨a,List.head_eq_of_cons_eq e,trivial⟩
 | .v _,x,y,n,hb,t=>⟨x,rfl,n,y,hb,t⟩
theorem EP{n:Nat}:∀(d:List Fk) (cs:List Value),cs.length=d.length→(∀(j:Nat) (k:Fk),d[j]?=some k→∃(v:Value) (y:DataW H×List MemPlace),cs[j]?=some v∧Rows.uptoBulk y.1≤1048576∧DataW.trod enc Tryz.prog W base (fun _=>true) true n k.ty [v]=some y) →
 ∃x:Tup d,cs=vals d x∧Oks enc W base d x
 | [],[],_,_=>⟨(),rfl,trivial⟩
 | k::r,c::cs,hl,h=>by
  obtain⟨v,y,e,u,t⟩:=h 0 k rfl;obtain⟨a,l,g⟩:=one k u t;obtain⟨x,B,w⟩:=EP r cs (by simpa using hl) (fun j k q=>h (j+1) k q);obtain rfl:c=v:=by simpa using e
  exact⟨(a,x),by rw[l,B];rfl,g,w⟩
theorem flat(d:List Fk){e:TypeId}{g:Array Field}{n:Nat}{cs:List Value}{x:DataW H×List MemPlace}(L:Tryz.prog.underlying e=some (.struct g))(u:oneCellFields Tryz.prog g=true)(q:g.toList.map Field.type=d.map ty)(l:cs.length=d.length)
 (K:Rows.uptoBulk x.1≤1048576)(h:DataW.trod enc Tryz.prog W base (fun _=>true) true n e cs=some x):∃x:Tup d,cs=vals d x∧Oks enc W base d x:=by
 have C:d.length=g.size:=by have:=congrArg List.length q;simpa using this.symm
 obtain⟨Q,N⟩:=yJ L u rfl (l.trans C) h;refine EP (n:=Q) d cs l fun j k O=>?_
 have D:g.toList[j]?.map Field.type=some k.ty:=by rw[←List.getElem?_map,q,List.getElem?_map,O];rfl
 obtain⟨f,w,B⟩:=Option.map_eq_some_iff.1 D;obtain⟨v,y,E,I,J⟩:=N j f (by simpa using w);exact⟨v,y,E,Δ I K,B▸J⟩
end Fk
variable (enc W base) in
def fI{α:Type}(t:TypeId)(k:Nat)(R:World→Nat→Nat→α→Prop):Prop:=∀(b o m:Nat) (cs:List Value) (x:DataW H×List MemPlace),Rows.uptoBulk x.1≤1048576→W.cells? base ⟨b,o,none⟩ k=some cs →
 DataW.trod enc Tryz.prog W base (fun _=>true) true m t cs=some x→∃s:α,R W b o s
theorem gP{α:Type}{R:World→Nat→Nat→α→Prop}(d:List Fk){e:TypeId}{q:Array Field}(E:Tryz.prog.underlying e=some (.struct q))(l:oneCellFields Tryz.prog q=true)(w:q.toList.map Field.type=d.map Fk.ty)
 (F:∀(b o:Nat) (x:Fk.Tup d),aK W b o (Fk.vals d x)→Fk.Oks enc W base d x→∃s:α,R W b o s):fI enc W base e d.length R:=fun b o m cs x C D h=>by
 obtain⟨_,g,u⟩:=World.cells?_some D;obtain⟨y,rfl,H⟩:=Fk.flat d E l w g C h;refine F b o y (fun j v B=>?_) H;have:=u j (g▸(ο.1 B).1);rw[ph]at this;exact this.trans B
theorem bG{α:Type}{R:World→Nat→Nat→α→Prop}{t e:TypeId}{k:Nat}(C:fI enc W base e k R){v:Value}(hv:Fk.Ok enc W base (.v t) v)(ht:Tryz.prog.underlying t=some (.slice e))(O:Tryz.prog.cellsOf e=k)(H:0<k):∃xs:List α,aM W.heap.size k R W v xs:=by
 obtain⟨L,y,U,h⟩:=hv
 rcases open_slice ht h with⟨g,Z⟩|⟨a,len,q,m,n1,D,Pl,g,af,hl,hm,I,Z,hi⟩
 ·simp at g
  subst g;exact⟨[],none,0,rfl,Γ _,ξ,fun h=>by simp at h⟩
 ·simp at g
  subst g;simp only[if_true]at I;have hB:Rows.uptoBulkAll ((List.range len).map D)+1≤1048576:=Δ (bulks.slice_elems _ _) (by rw[Z]at U;exact U);have Y:len≤1048576:=by have:=bulks.length_le ((List.range len).map D);simp at this;omega
  rcases ϑ len with N|N
  ·subst N
   exact⟨[],_,q,rfl,hl,ξ,fun h=>by simp at h⟩
  ·obtain⟨ad,x,_⟩:=hi 0 χ
   rw[O]at x;obtain⟨_,X,w⟩:=World.cells?_some x;have j:=w 0 H;rw[Ez χ]at j;simp only[Nat.zero_mul]at j;rw[Go.Deep.add_add]at j;obtain⟨b,off,rfl,B,u⟩:=xn j;obtain⟨xs,K,hq⟩:=C9 (Q:=fun i (s:α)=>R W b (off+i*k) s) len (fun i E=>by
    obtain⟨ac,V,J⟩:=hi i χ;rw[O,u]at V;refine C _ _ _ _ _ ?_ V J;have:=bulks.part_le (d:=D i) (l:=(List.range len).map D) (List.mem_map.2 ⟨i,List.mem_range.2 E,rfl⟩);show Rows.uptoBulk (D i)≤_;omega)
   exact⟨xs,some ⟨b,off,none⟩,q,by rw[K],χ,by unfold top;omega,fun _=>⟨b,off,rfl,B,hq⟩⟩
theorem zu:fI enc W base 91 3 xM:=gP [.i,.u,.u] Tryz.underlying91 δ δ fun b o ⟨d,g,h,_⟩ c ⟨j,l,q,_⟩=>⟨⟨d,g,h⟩,c,j,l,q⟩
theorem tD:fI enc W base 93 5 dg:=gP [.i,.s,.u,.b,.b] Tryz.underlying93 δ δ fun b o ⟨d,g,h,j,l,_⟩ c ⟨q,u,v,_,_,_⟩=>⟨⟨d,g,h,j,l⟩,c,q,v,u⟩
theorem sU:fI enc W base 53 10 jl:=gP [.i,.s,.u,.b,.u,.b,.b,.u,.b,.s] Tryz.underlying53 δ δ fun b o ⟨d,g,h,j,l,q,u,v,w,x,_⟩ c ⟨y,B,C,_,D,_,_,E,_,H,_⟩=>⟨⟨d,g,h,j,l,q,u,v,w,x⟩,c,y,C,D,E,B,H⟩
theorem xr:fI enc W base 95 4 mt:=gP [.i,.i,.s,.u] Tryz.underlying95 δ δ fun b o ⟨d,g,h,j,_⟩ c ⟨l,q,u,v,_⟩=>⟨⟨d,g,h,j⟩,c,l,q,v,u⟩
theorem rp:fI enc W base 97 8 kD:=gP [.i,.s,.s,.s,.b,.s,.i,.u] Tryz.underlying97 δ δ fun b o ⟨d,g,h,j,l,q,u,v,_⟩ c ⟨w,x,y,B,_,C,D,E,_⟩=>⟨⟨d,g,h,j,l,q,u,v⟩,c,w,D,E,x,y,B,C⟩
theorem Ae:fI enc W base 87 6 xP:=gP [.i,.s,.s,.s,.u,.b] Tryz.underlying87 δ δ fun b o ⟨d,g,h,j,l,q,_⟩ c ⟨u,v,w,x,y,_,_⟩=>⟨⟨d,g,h,j,l,q⟩,c,u,y,v,w,x⟩
theorem ug:fI enc W base 89 6 nw:=gP [.i,.s,.s,.s,.i,.u] Tryz.underlying89 δ δ fun b o ⟨d,g,h,j,l,q,_⟩ c ⟨u,v,w,x,y,B,_⟩=>⟨⟨d,g,h,j,l,q⟩,c,u,y,B,v,w,x⟩
theorem zY:fI enc W base 99 4 ly:=gP [.i,.s,.u,.u] Tryz.underlying99 δ δ fun b o ⟨d,g,h,j,_⟩ c ⟨l,q,u,v,_⟩=>⟨⟨d,g,h,j⟩,c,l,u,v,q⟩
theorem mS:fI enc W base 47 2 ig:=gP [.i,.s] Tryz.underlying47 δ δ fun b o ⟨d,g,_⟩ c ⟨h,j,_⟩=>⟨⟨d,g⟩,c,h,j⟩
theorem BB:fI enc W base 101 3 xQ:=gP [.i,.s,.s] Tryz.underlying101 δ δ fun b o ⟨d,g,h,_⟩ c ⟨j,l,q,_⟩=>⟨⟨d,g,h⟩,c,j,l,q⟩
theorem tq:fI enc W base 65 5 (lz W.heap.size):=gP [.i,.s,.u,.u,.v 42] Tryz.underlying65 δ δ fun b o ⟨d,g,h,j,l,_⟩ c ⟨u,v,w,x,y,_⟩=>by
 obtain⟨B,q⟩:=bG tD y Tryz.underlying42 δ ψ;exact⟨⟨d,g,h,j,B⟩,l,c,q,u,w,x,v⟩
theorem rK:fI enc W base 45 6 (kB W.heap.size):=gP [.i,.s,.u,.b,.v 42,.v 43] Tryz.underlying45 δ δ fun b o ⟨d,g,h,j,l,q,_⟩ c ⟨w,x,y,_,B,C,_⟩=>by
 obtain⟨D,u⟩:=bG tD B Tryz.underlying42 δ ψ;obtain⟨E,v⟩:=bG xr C Tryz.underlying43 δ ψ;exact⟨⟨d,g,h,j,D,E⟩,l,q,c,u,v,w,y,x⟩
theorem yW:fI enc W base 71 4 (il W.heap.size):=gP [.i,.u,.b,.v 69] Tryz.underlying71 δ δ fun b o ⟨d,g,h,j,_⟩ c ⟨q,u,_,v,_⟩=>by
 obtain⟨w,l⟩:=bG zY v Tryz.underlying69 δ ψ;exact⟨⟨d,g,h,w⟩,j,c,l,q,u⟩
theorem y9:fI enc W base 68 4 (s8 W.heap.size):=gP [.i,.s,.u,.v 66] Tryz.underlying68 δ δ fun b o ⟨d,g,h,j,_⟩ c ⟨q,u,v,w,_⟩=>by
 obtain⟨x,l⟩:=bG yW w Tryz.underlying66 δ ψ;exact⟨⟨d,g,h,x⟩,j,c,l,q,v,u⟩
theorem sY{r:Reach}{Z:Nat}{v:Value}{d:DataW H}{U:List MemPlace}(g:Value.okWide Tryz.prog W r Z 33 v)(D:DataW.Trod enc Tryz.prog W base (fun _=>true) true 33 v d U)(hb:Rows.uptoBulk d≤1048576):
 ∃(V:aY) (P:Ck.aF),v=.agg (V.cells P).toArray∧ak W.heap.size W V P:=by
 obtain⟨cs,rfl,C⟩:=okWide_struct Tryz.underlying33 g;obtain⟨R,D⟩:=D;have e:Tryz.prog.cellsOf 33=14:=δ
 obtain⟨⟨X,Y,v2,v3,v4,v5,v6,v7,v8,v9,E,I,J,K,_⟩,ec,h0,h1,h2,h3,h4,h5,h6,h7,h8,h9,u,w,y,B,_⟩:=Fk.flat (cs:=cs.toList) (x:=(d,U)) [.i,.s,.v 22,.v 23,.v 24,.v 25,.v 26,.v 27,.v 28,.v 29,.v 30,.v 30,.v 30,.v 31] Tryz.underlying33 δ δ (by simp[C,e]) hb D;obtain⟨x2,g2⟩:=bG zu h2 Tryz.underlying22 δ ψ;obtain⟨x3,g3⟩:=bG tq h3 Tryz.underlying23 δ ψ;obtain⟨x4,g4⟩:=bG sU h4 Tryz.underlying24 δ ψ;obtain⟨x5,g5⟩:=bG rK h5 Tryz.underlying25 δ ψ;obtain⟨x6,g6⟩:=bG rp h6 Tryz.underlying26 δ ψ;obtain⟨x7,g7⟩:=bG Ae h7 Tryz.underlying27 δ ψ;obtain⟨x8,g8⟩:=bG ug h8 Tryz.underlying28 δ ψ;obtain⟨x9,g9⟩:=bG y9 h9 Tryz.underlying29 δ ψ;obtain⟨L,h⟩:=bG mS u Tryz.underlying30 δ ψ;obtain⟨N,j⟩:=bG mS w Tryz.underlying30 δ ψ;obtain⟨O,l⟩:=bG mS y Tryz.underlying30 δ ψ;obtain⟨Q,q⟩:=bG BB B Tryz.underlying31 δ ψ;exact⟨⟨v2,v3,v4,v5,v6,v7,v8,v9,E,I,J,K⟩,⟨X,Y,x2,x3,x4,x5,x6,x7,x8,x9,L,N,O,Q⟩,congrArg Value.agg (Array.ext' ec),g2,g3,g4,g5,g6,g7,g8,g9,h,j,l,q,h0,h1⟩
end
end Go.Proofs.YthobcefghkeddaaGreatDoor
namespace Go.Proofs.YthobcefghkeddaaGreatDoor
def vi:MemPlace→Nat
 | .cell b off=>(b*512+off)*2
 | .map b=>b*2+1
def tA:List MemPlace→Nat→Bool
 | [],_=>true
 | x::xs,m =>!m.testBit (vi x)&&tA xs (m ||| 1 <<< vi x)
theorem ou:∀(xs:List MemPlace) (m:Nat),tA xs m=true→xs.Nodup∧∀x∈xs,m.testBit (vi x)=false
 | [],m,_=>⟨List.nodup_nil,fun x h=>by cases h⟩
 | x::xs,m,h=>by
  simp only[tA,Bool.and_eq_true,Bool.not_eq_true']at h;obtain⟨j,g⟩:=ou xs _ h.2;refine⟨List.nodup_cons.2 ⟨fun l=>?_,j⟩,fun y d=>?_⟩
  ·have:=g x l
   rw[Nat.testBit_or,Nat.one_shiftLeft,Nat.testBit_two_pow_self]at this;simp at this
  ·rcases Ξ.1 d with rfl|d
   ·exact h.1
   ·have:=g y d
    rw[Nat.testBit_or,Bool.or_eq_false_iff]at this;exact this.1
theorem nZ{P:Program}{w:World}{l:List (String×DataW Unit)}(d:Nat)(h:(DataW.laidRun P w d (l.map (·.1))).map (·.1)=some l)
 (j:(DataW.laidRun P w d (l.map (·.1))).map (fun x=>laidRowsB P w x.2)=some true)(g:(DataW.laidRun P w d (l.map (·.1))).map (fun x=>tA x.2 0)=some true):laidMet P l w:=by
 cases hx:DataW.laidRun P w d (l.map (·.1))with
 | none=>simp[hx]at h
 | some x =>
  obtain⟨u,q⟩:=x;simp only[hx,Option.map_some,Option.some.injEq]at h j g;subst h;exact laidMet_of_run d hx (decide_eq_true (ou q 0 g).1) j
open Go.Lib Go.RowKit
variable {W:World} {g:Nat}
theorem vS(h:laidMetH Tryz.prog Rows.placeNamesRow.laid W):
 laidMet Tryz.prog (Rows.placeNamesRow.laid.filter fun x=>x.2.handleName?.isNone) W∧handlesMet Tryz.prog [("errors.errorType",Rows.laid_errors_errorType)] W:=by
 have e:Rows.placeNamesRow.laid.filter (fun x=>x.2.handleName?.isSome)=[("errors.errorType",Rows.laid_errors_errorType)]:=δ
 unfold laidMetH at h;simp only[e]at h;exact h
theorem B3:((List.range Tryz.prog.types.size).filter fun t=>Tryz.prog.rowNamed t [101,114,114,111,114])=[75]:=δ
theorem yk(h:handlesMet Tryz.prog [("errors.errorType",Rows.laid_errors_errorType)] W):pn W:=by
 have d:Tryz.prog.globalNamed "errors.errorType" = some 0:=δ
 have g:(Tryz.prog.cutTypes.find? (·.1 == "internal/reflectlite.rtype")).map (·.2)=some 231:=δ
 obtain⟨name,u,ty,q,v,e3,e4,j⟩:=h _ (ρ.2 rfl);have w:name=[101,114,114,111,114]:=(ι q).symm;subst w;obtain rfl:=ι (g.symm.trans v);have l:ty∈(List.range Tryz.prog.types.size).filter fun t=>Tryz.prog.rowNamed t [101,114,114,111,114]:=List.mem_filter.2 ⟨List.mem_range.2 e3,e4⟩
 rw[B3]at l;obtain rfl:=ρ.1 l;have hh:typeHandle Tryz.prog 75=.pointer (some ⟨13,75,none⟩):=δ
 rw[hh]at j;unfold pn
 simpa using World.var?_cell d j 0
theorem mG{n:String}{k:IntKind}{y:List Int}{m:Nat}{t e:TypeId}(D:Tryz.prog.globalNamed n=some g)(w:(Tryz.prog.globals[g]?).map (·.type)=some t)
 (E:Tryz.prog.underlying t=some (.array m e))(C:Tryz.prog.underlying e=some (.int k))(l:Tryz.prog.cellsOf e=1)(u:Tryz.prog.cellsOf t=m)(h:VarReads Tryz.prog W n (tabData k y)):TabIs Tryz.prog W n k y:=by
 obtain⟨H,t',cs,x,p,v,d,j,B⟩:=h;obtain rfl:=ι (D.symm.trans v);obtain rfl:=ι (w.symm.trans d);have q:=cells_of_tab E C l u B;unfold TabIs;rw[j];exact congrArg some (Array.ext' q)
theorem nQ{W:World}{n:String}{t:TypeId}{g:Nat}{ms:Array (String×TypeId)}{d:DataW Unit}(y:Tryz.prog.globalNamed n=some g)(x:(Tryz.prog.globals[g]?).map (·.type)=some t)
 (D:Tryz.prog.underlying t=some (.interface ms))(h:VarReads Tryz.prog W n d):∃v,W.cell? ⟨g,0,none⟩=some v∧wI v:=by
 obtain⟨H,t',cs,j,p,w,l,q,u⟩:=h;obtain rfl:=ι (y.symm.trans w);obtain rfl:=ι (x.symm.trans l);have B:=World.var?_cell y q 0
 cases j with
 | zero=>simp[DataW.trod]at u
 | succ j =>
  have:∃v,cs.toList=[v]∧wI v:=by
   simp only[DataW.trod,D]at u;split at u<;>simp_all [wI]
  obtain⟨v,E,C⟩:=this;have e:cs = #[v]:=Array.ext' E;subst e;exact⟨v,B,C⟩
theorem qT{n:String}{k:IntKind}{l:List Int}{w w':World}(u:Tryz.prog.globalNamed n=some g)(h:TabIs Tryz.prog w n k l)(q:Below w.heap.size w w'):TabIs Tryz.prog w' n k l:=by
 unfold TabIs World.var? at h⊢;rw[u]at h⊢;simp only[Option.bind_some]at h⊢;have j:g<w.heap.size:=by
  rcases Ψ g w.heap.size with d|d
  ·exact d
  ·rw[Array.getElem?_eq_none d]at h;cases h
 rw[q.block g j];exact h
theorem ji.below{w w':World}(h:ji gW w)(x:Below w.heap.size w w'):ji gW w':=by
 have lt:∀{a:Addr} {v:Value},w.cell? a=some v→a.block<w.heap.size:=fun{a v} l=>by
  rcases Ψ a.block w.heap.size with u|u
  ·exact u
  ·simp[World.cell?,Array.getElem?_eq_none u]at l
 have keep:∀{a:Addr} {v:Value},w.cell? a=some v→w'.cell? a=some v:=fun{a v} l=>(x.cell (lt l)).trans l
 refine⟨fun i hi=>keep (h.QU i hi),qT (g:=2) δ h.space x,?_,qT (g:=5) δ h.pow x,?_,?_,?_⟩
 ·obtain⟨p,q,B,C,D⟩:=h.white
  exact⟨p,q,keep B,fun j v d=>keep (C j v d),fun i hi=>keep (D i hi)⟩
 ·obtain⟨m,E⟩:=h.max
  exact⟨m,keep E⟩
 ·obtain⟨v,d,y⟩:=h.e3
  exact⟨v,keep d,y⟩
 ·obtain⟨v,d,y⟩:=h.e4
  exact⟨v,keep d,y⟩
theorem vR(h:laidMetH Tryz.prog Rows.placeNamesRow.laid W)(x:W.ShapedOpen Tryz.prog):gI W.heap.size W:=by
 obtain⟨N,hh⟩:=vS h;have l:∀{n:String} {d:DataW Unit},(n,d)∈Rows.placeNamesRow.laid→d.handleName?.isNone=true→VarReads Tryz.prog W n d:=fun O Q=>laidMet.reads N (List.mem_filter.2 ⟨O,Q⟩)
 have u:TabIs Tryz.prog W "bulkhead/scan.classes" .u8 ((List.range 128).map fun i=>(gW i:Int)):=
  mG (g:=1) (t:=308) (e:=5) (m:=128) δ δ δ δ δ δ
   ((show Rows.laid_bulkhead_scan_classes=tabData .u8 ((List.range 128).map fun i=>(gW i:Int)) by kernel_rfl)▸l (n := "bulkhead/scan.classes") (d:=Rows.laid_bulkhead_scan_classes) (.tail _ (.tail _ (.tail _ (.tail _ (.tail _ (.tail _ (.tail _ (.tail _ (.tail _ (.head _)))))))))) δ)
 have w:TabIs Tryz.prog W "internal/strconv.uint64pow10" .u64 pow10Tab:=
  mG (g:=5) (t:=341) (e:=41) (m:=20) δ δ δ δ δ δ
   ((show Rows.laid_internal_strconv_uint64pow10=tabData .u64 pow10Tab by kernel_rfl)▸l (n := "internal/strconv.uint64pow10") (d:=Rows.laid_internal_strconv_uint64pow10) (.tail _ (.tail _ (.head _))) δ)
 have y:TabIs Tryz.prog W "strings.asciiSpace" .u8 asciiSpaceTab:=
  mG (g:=2) (t:=332) (e:=5) (m:=256) δ δ δ δ δ δ
   ((show Rows.laid_strings_asciiSpace=tabData .u8 asciiSpaceTab by kernel_rfl)▸l (n := "strings.asciiSpace") (d:=Rows.laid_strings_asciiSpace) (.tail _ (.tail _ (.tail _ (.tail _ (.tail _ (.tail _ (.tail _ (.tail _ (.head _))))))))) δ)
 have C:WhiteTab 7 W:=whiteTab_of_reads Tryz.lays199 ⟨δ,δ,δ,δ,δ,δ,δ,δ⟩
  ((show Rows.laid_unicode_White_Space=whiteData by kernel_rfl)▸l (n := "unicode.White_Space") (d:=Rows.laid_unicode_White_Space) (.tail _ (.tail _ (.tail _ (.tail _ (.tail _ (.tail _ (.tail _ (.head _)))))))) δ)
 have K:ji gW W:={
  QU:=fun i hi=>by
   have:=u.cell (g:=1) δ i (by simpa using hi);rw[this];simp[List.getD,hi]
  space:=y
  white:=by
   obtain⟨T,X,R,V,D,E,H,I,J⟩:=C;refine⟨(T,X),(R,V),D,fun j v q=>?_,J⟩
   match j,q with
   | 0,q=>obtain rfl:=ι q;exact E
   | 1,q=>obtain rfl:=ι q;exact H
   | 2,q=>obtain rfl:=ι q;exact I
   | j+3,q=>simp at q
  pow:=w
  max:=cell_of_shapedOpen_int (g:=6) (t:=3) (zero := #[.int .i64 0]) x (of_decide_eq_true δ) δ rfl δ δ Tryz.underlying3
  e3:=nQ (g:=3) (t:=75) (ms:=_) δ δ (Tryz.underlying75) (l (n := "strconv.ErrSyntax") (d:=Rows.laid_strconv_ErrSyntax) (.tail _ (.tail _ (.tail _ (.tail _ (.tail _ (.tail _ (.head _))))))) δ)
  e4:=nQ (g:=4) (t:=75) (ms:=_) δ δ (Tryz.underlying75) (l (n := "strconv.ErrRange") (d:=Rows.laid_strconv_ErrRange) (.tail _ (.tail _ (.tail _ (.tail _ (.tail _ (.head _)))))) δ) }
 have B:13<W.heap.size:=by
  obtain⟨o,_,U,_⟩:=x.2 13 (of_decide_eq_true δ) (of_decide_eq_true δ);exact(ϱ.1 U).1
 exact⟨B,yk hh,fun w' L=>K.below L⟩
end Go.Proofs.YthobcefghkeddaaGreatDoor
namespace Go.Proofs.YthobcefghkeddaaGreatDoor.names
open Go.ChangeShapes Go.WideShapes Go.ChangeAt Go.RowKit
def put(h:Array Obj)(g:Nat)(cs:Array Value):Array Obj:=h.modify g fun
 | .cells _ t frozen =>.cells cs t frozen
 | o=>o
def tab:DataW Unit→List Value
 | .agg l=>l.map fun d=>match d with|.lit (.int k n)=>Value.int k n|_ =>.nilIface
 | _=>[]
noncomputable def md(os:Os):World:=
 let N:=(World.settled Tryz.prog os).heap.size
 let w0:=World.holding Tryz.prog os ⟨#[.cells (Lib.whiteT.map fun(z:Nat)=>Value.int .u16 (z:Int)).toArray (Tryz.lays199_ren.t 198),.cells #[.slice (some ⟨N,0,none⟩) 7 7,.slice none 0 0,.int .i64 2] (Tryz.lays199_ren.t 196),
  .cells #[.string ⟨#[105,110,118,97,108,105,100,32,115,121,110,116,97,120]⟩] 354,.cells #[.string ⟨#[118,97,108,117,101,32,111,117,116,32,111,102,32,114,97,110,103,101]⟩] 354], #[],[]⟩
 let h0:=put w0.heap 0 #[.iface 231 (.agg #[.pointer (some ⟨13,75,none⟩)])]
 let h1:=put h0 1 ((List.range 128).map fun i=>Value.int .u8 (gW i)).toArray
 let h2:=put h1 2 (Lib.asciiSpaceTab.map fun z=>Value.int .u8 z).toArray
 let h3:=put h2 3 #[.iface 352 (.pointer (some ⟨N+2,0,none⟩))]
 let h4:=put h3 4 #[.iface 352 (.pointer (some ⟨N+3,0,none⟩))]
 let h5:=put h4 5 (Lib.pow10Tab.map fun z=>Value.int .u64 z).toArray
 let h7:=put h5 7 #[.pointer (some ⟨N+1,0,none⟩)]
 let h8:=put h7 8 (Lib.firstTab.map fun z=>Value.int .u8 z).toArray
 let h9:=put h8 9 ((List.range 16).flatMap fun i=>[Value.int .u8 (Lib.accLo i),Value.int .u8 (Lib.accHi i)]).toArray
 let h10:=put h9 10 (tab Rows.laid_math_bits_deBruijn32tab).toArray
 let h11:=put h10 11 (tab Rows.laid_math_bits_deBruijn64tab).toArray
 { w0 with heap:=h11 }
noncomputable abbrev wl (os:Os):World:=(md os).forCall (fun _ _=>0) ⟨#[], #[],[]⟩
theorem wl1(os:Os):(DataW.laidRun Tryz.prog (wl os).memory 10 ((Rows.placeNamesRow.laid.filter fun x=>x.2.handleName?.isNone).map (·.1))).map (·.1)=some (Rows.placeNamesRow.laid.filter fun x=>x.2.handleName?.isNone):=δ
theorem wl2(os:Os):(DataW.laidRun Tryz.prog (wl os).memory 10 ((Rows.placeNamesRow.laid.filter fun x=>x.2.handleName?.isNone).map (·.1))).map (fun x=>laidRowsB Tryz.prog (wl os).memory x.2)=some true:=δ
theorem wl3(os:Os):(DataW.laidRun Tryz.prog (wl os).memory 10 ((Rows.placeNamesRow.laid.filter fun x=>x.2.handleName?.isNone).map (·.1))).map (fun x=>tA x.2 0)=some true:=δ
theorem wl4(os:Os):(Rows.placeNamesRow.laid.filter fun x=>x.2.handleName?.isSome).all (handleAtB Tryz.prog (wl os).memory)=true:=δ
theorem pC(os:Os):laidMetH Tryz.prog Rows.placeNamesRow.laid (wl os).memory:=
 laidMetH_of_parts (nZ 10 (wl1 os) (wl2 os) (wl3 os)) (wl4 os)
theorem BV(os:Os):(wl os).variablesRefB Tryz.checked.prog=true:=δ
theorem BW(os:Os):((wl os).heap.toList.drop Tryz.checked.prog.globals.size).take ((begin Tryz.checked.prog (fun _ _=>0) default).world.heap.size-Tryz.checked.prog.globals.size)=(begin Tryz.checked.prog (fun _ _=>0) default).world.heap.toList.drop Tryz.checked.prog.globals.size:=δ
end Go.Proofs.YthobcefghkeddaaGreatDoor.names
namespace Go.Proofs.YthobcefghkeddaaGreatDoor.placePlacedUptoFacts
open Go
noncomputable abbrev P:=Tryz.pinned.checked.prog
abbrev f:Nat:=7
noncomputable abbrev fn:=Tryz.f7
noncomputable abbrev s:ChangeSpec:=(Rows.OpenSpec.upto Rows.placePlacedSpec).bare
noncomputable abbrev c:=Rows.placePlacedUptoRow
theorem j0:(c.wf (OpenSpec.ofChange s))=true:=δ
theorem j1:(laidOutB P)=true:=δ
theorem j2:(mapsRowed P)=true:=δ
theorem j3:(fn.params.all (P.readableRec ·))=true:=δ
theorem j4:(namedTie P c.named s.vars)=true:=δ
theorem j5:((c.stops==[]))=true:=δ
theorem j6:((P.stops==[]))=true:=δ
theorem j7:((c.knobs==[]))=true:=δ
theorem j8:((P.stopKnobs==[]))=true:=δ
theorem j9:((c.inPlace==P.inPlace f))=true:=δ
theorem j10:((c.unfollowed==P.unfollowed f))=true:=δ
theorem j11:((c.recurses==P.recurses f))=true:=δ
theorem j12:((c.named==P.varsNamed f))=true:=δ
theorem j13:((c.maps==(fn.params.toList++s.plain.varTypes P).any (P.mapsRec ·)))=true:=δ
theorem j14:((c.ifaces==(fn.params.toList++s.plain.varTypes P).any (P.ifacesRec ·)))=true:=δ
theorem j15:((c.mapsOut==P.mapsAmong fn.resultTypes.toList))=true:=δ
theorem j16:((c.loops==(fn.params.toList++s.plain.varTypes P).any (P.loopsFrom ·)))=true:=δ
theorem j17:((c.wideKeys==(fn.params.toList++s.plain.varTypes P++fn.resultTypes.toList).any (P.wideKeysFrom ·)))=true:=δ
theorem j18:(s.vars.all (P.varReadable ·))=true:=δ
theorem j19:(fn.resultTypes.all (fun t=>P.readableRec t&&decide (t<P.types.size)))=true:=δ
theorem j20:((c.ifacesOut==fn.resultTypes.toList.any (P.ifacesRec ·)))=true:=δ
theorem j21:((c.loopsOut==fn.resultTypes.toList.any (P.loopsFrom ·)))=true:=δ
theorem j22:((c.plainKeys==P.plainKeys))=true:=δ
theorem j23:(c.shortTexts.isNone)=true:=δ
theorem j24:(P.stopsHeard)=true:=δ
theorem j25:(P.mayEnter)=true:=δ
theorem j26:((c.lifted==P.liftsFinal))=true:=δ
theorem j27:((P.make==some c.make))=true:=δ
theorem j28:((c.kinds==(if c.domain.isEmpty then[]else fn.params.toList.map fun t=>match P.underlying t with|some (.int k)=>some k|_=>none)))=true:=δ
theorem j29:((c.pinned==c.pinnedBy))=true:=δ
theorem j30:((c.veiled==(fn.params.toList++s.plain.varTypes P++fn.resultTypes.toList).any (P.veiledRec ·)))=true:=δ
theorem j31:(c.veiledFits P fn.params.toList (fn.params.toList++s.plain.varTypes P++fn.resultTypes.toList))=true:=δ
theorem dp{a b:Bool}(h:a=true)(k:b=true):(a&&b)=true:=by rw[h,k];rfl
theorem closed:joinedFacts P f fn s c=true:=by
 unfold joinedFacts;exact(dp (dp (dp (dp (dp (dp (dp (dp (dp (dp (dp (dp (dp (dp (dp (dp (dp (dp (dp (dp (dp (dp (dp (dp (dp (dp (dp (dp (dp (dp (dp j0 j1) j2) j3) j4) j5) j6) j7) j8) j9) j10) j11) j12) j13) j14) j15) j16) j17) j18) j19) j20) j21) j22) j23) j24) j25) j26) j27) j28) j29) j30) j31)
end Go.Proofs.YthobcefghkeddaaGreatDoor.placePlacedUptoFacts
namespace Go.Proofs.YthobcefghkeddaaGreatDoor.placed
open Go.ChangeShapes Go.WideShapes Go.ChangeAt Go.RowKit
theorem own:ownKnob Tryz.prog.godebug=none:=δ
theorem CC:laidOutB Tryz.prog=true:=δ
theorem pT(H:Type)(enc:TypeId×Value→H)(W:World)(base:Nat)(args:Array Value)(w J:List (DataW H))(d:List MemPlace)
 (g:∀(j:Nat) t v,Tryz.f7.params[j]?=some t→args[j]?=some v→Value.okWide Tryz.prog W .any base t v)
 (L:DataW.Whole enc Tryz.prog Tryz.f7.params.toList Rows.placePlacedSpec.vars false W args.toList w J d)(R:laidMetH Tryz.prog Rows.placeNamesRow.laid W)(E:W.ShapedOpen Tryz.prog)(hk:Rows.uptoSmall H (w++J)=true):
 Calls Tryz.prog 7 args W fun e W'=>∃v,e=.returned v∧Rows.placePlacedSpec.post enc Tryz.prog Tryz.f7 false true false false W args v W':=by
 have B:=L;obtain⟨p,q,u,U,rfl,Z,ac⟩:=L;have K:DataW.TrodAll enc Tryz.prog W 0 (fun _=>true) true Tryz.f7.params.toList args.toList w p:=u;rw[Tryz.params7]at K g;obtain⟨N,ad,O,Q,p0,q0,C,rfl,rfl,y,r0⟩:=trodAll_cons K;obtain⟨rfl,rfl,rfl⟩:=trodAll_nil r0;obtain rfl:args = #[N]:=by cases args;simp_all
 obtain⟨rfl,rfl⟩:=trodVars_none U;have X:Rows.uptoBulk O≤1048576:=by simpa[Rows.uptoSmall,Rows.uptoBulkAll]using hk
 have I:∀x∈p0,x.block<W.heap.size:=by obtain⟨m,hm⟩:=y;exact DataW.trod_lt m _ _ _ hm
 obtain⟨V,P,rfl,hp⟩:=sY (g 0 33 N rfl rfl) y χ;clear u;refine(Rs.uo hp (vR R E) (Γ _)).mono fun e W' ⟨Y,D⟩=>?_
 subst Y;have l:Below W.heap.size W W':=D.below (Γ _) (fun _ _ e=>e);exact⟨_,rfl,_,_,_,[],_,[],B,trodAll_mk1 (shut_bool Tryz.underlying4 _),trodAll_cons_mk (Below.trod CC δ (of_decide_eq_true δ) y l I) trodAll_mk0,rfl,l.frame _,fun h=>by cases h⟩
def BG:Array Value := #[.agg #[.int .i64 0,.string { data := #[] },.slice none 0 0,.slice none 0 0,.slice none 0 0,.slice none 0 0,.slice none 0 0,.slice none 0 0,.slice none 0 0,.slice none 0 0,.slice none 0 0,.slice none 0 0,.slice none 0 0,.slice none 0 0]]
noncomputable abbrev wl (os:Os):World:=(names.md os).forCall (fun _ _=>0) ⟨#[],BG,[]⟩
theorem pC(os:Os):laidMetH Tryz.prog Rows.placePlacedUptoRow.laid (wl os).memory:=names.pC os
theorem reads(os:Os){H:Type}(enc:TypeId×Value→H):∃x,DataW.whole enc Tryz.prog (wl os).memory Tryz.f7.params.toList Rows.placePlacedSpec.vars false BG.toList 8=some x∧Rows.uptoSmall H (x.1++x.2.1)=true:=
 ⟨([.agg [.lit (.int .i64 0),.lit (.string []),.nil,.nil,.nil,.nil,.nil,.nil,.nil,.nil,.nil,.nil,.nil,.nil]],[],[]),δ,δ⟩
theorem lifted(os:Os)(h:os.Started)(H:Type)(enc:TypeId×Value→H)(F:Stop.Interp):
 ReturnsInHanded {} Tryz.checked os 7 .any ((Rows.OpenSpec.upto Rows.placePlacedSpec).preRow enc Tryz.prog Tryz.f7 Rows.placePlacedUptoRow.domain false Rows.placePlacedUptoRow.laid) (((Rows.OpenSpec.upto Rows.placePlacedSpec).at F).post enc Tryz.prog Tryz.f7 false true false false):=by
 obtain⟨x,y,w⟩:=reads os enc;refine returnsInHanded_of_row (C:=Tryz.checked) (s:=Rows.OpenSpec.upto Rows.placePlacedSpec) own h δ Tryz.func7
  (witness_row_atRef (enc:=enc) (C:=Tryz.checked) false (names.md os) BG rfl (names.BV os) (names.BW os) δ
   (OpenSpec.preRow_of_cond 8 y δ (fun k hk=>by cases hk;exact w) δ (pC os))) ?_
 intro W base args l q d g v B D I u j E
 first|exact pT H enc W base args l q d g v u j (E _ rfl)|exact pT H enc W base args l q d g v u j (D _ rfl)|exact pT H enc W base args l q d g v u j (B _ rfl)
theorem Ep:Rows.PlacePlacedUptoSaid:=
 OpenClaim.holds_of_cond 7 Tryz.f7 rfl rfl rfl rfl rfl rfl rfl ⟨rfl,rfl,rfl,rfl,rfl⟩ rfl rfl rfl rfl rfl δ Tryz.func7 placePlacedUptoFacts.closed
  (of_decide_eq_true δ) (by unfold Func.isWrapper;first|(rw[if_pos (by decide +kernel)];kernel_rfl)|(rw[if_neg (by decide +kernel)];exact⟨rfl,rfl⟩))
  (fun os d H enc _ F=>by rw[OpenClaim.pre_eq_preRow];exact lifted os d H enc F)
theorem plain(f:FuncId)(fn:Func)(h:Tryz.pinned.checked.prog.funcNamed "bulkhead/bulkheadlaw11.PlacePlaced" = some f)(d:Tryz.pinned.checked.prog.funcs[f]?=some fn):
 true=Tryz.pinned.checked.prog.looks []∧∀(j:Nat) t,fn.params[j]?=some t→Tryz.pinned.checked.prog.wantsStandIn t=false:=by
 obtain rfl:f=7:=ι ((show Tryz.prog.funcNamed "bulkhead/bulkheadlaw11.PlacePlaced" = some 7 by kernel_rfl).symm.trans h) |>.symm;obtain rfl:fn=Tryz.f7:=(ι (Tryz.func7.symm.trans d)).symm;refine⟨δ,fun j t g=>?_⟩;rw[Tryz.params7]at g;obtain rfl:j=0:=by have:=(ϱ.1 g).1;simp at this;omega
 obtain rfl:33=t:=ι g
 kernel_rfl
theorem placePlaced_holds:Rows.PlacePlacedUptoCardSaid:=
 Claim7.holds_tied_plain_at .later [] _ _ _ _ Ep (fun _ h=>by cases h) δ (fun _ h=>by cases h) placePlacedUpto_row_tie rfl ⟨rfl,rfl⟩ δ rfl plain δ
