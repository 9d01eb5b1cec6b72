import Derived.Test.YthobcefghkeddaaGreatDoorPl15
import Derived.Test.YthobcefghkeddaaGreatDoorSml
set_option maxRecDepth 100000
set_option linter.all false
set_option maxHeartbeats 4000000
namespace Go.Proofs.YthobcefghkeddaaGreatDoor.Rs
open Go.RowKit Go.Proofs.YthobcefghkeddaaGreatDoor Ck
variable {pg B:Nat} {w:World}
structure LrE where
 A:Option Addr
 n:Nat
 c:Nat
 im:Nat
 pg:Int
 k:Int
 e:Int
def nw(k e:Int):LrE:=⟨none,0,0,0,0,k,e⟩
def lrD(x:LrE):Sta where
 i j:=match j with|0=>x.im|1=>x.pg|2=>x.k|_=>x.e
 a _:=x.A
 n j:=match j with|0=>x.n|_=>x.c
 o _ := .tuple #[sL (.slice x.A x.n x.c) x.im x.pg,.int .i64 x.k,.int .i64 x.e]
def lrL(m:Nat):List Cl:=[.sl m m (m+1),.i .u64 (.x m),.i .i64 (.x (m+1))]
def BN(m td t0 t1 t2:Nat):Kn:={ KO:=[(t0,[(td,.one (.v m))],.ag (lrL m)),(t1,[(td,.one (.v m))],.one (.i .i64 (.x (m+2)))),(t2,[(td,.one (.v m))],.one (.i .i64 (.x (m+3))))] }
theorem qq{S:Sta}{κ:Kap}{P:Program}{ops:List Oper}{m g B C t2:Nat}(x:LrE)(I:((ops.filter fun o=>o.dst==some B).map (·.op))=[.extract (.tmp g) 0])(J:((ops.filter fun o=>o.dst==some C).map (·.op))=[.extract (.tmp g) 1])(K:((ops.filter fun o=>o.dst==some t2).map (·.op))=[.extract (.tmp g) 2])
 (v:S.o m=(lrD x).o 0)(D:SV.den S κ (.ag (lrL m))=sL (.slice x.A x.n x.c) x.im x.pg)(E:S.i (m+2)=x.k)(H:S.i (m+3)=x.e):fo S κ P ops (BN m g B C t2):=by
 refine⟨(fun _ h=>by cases h),fun y l o d u a w q=>?_⟩
 rcases List.mem_cons.1 l with rfl|l
 ·have j:a.eval (.tmp g)=(lrD x).o 0:=(q _ (List.mem_singleton.2 rfl)).trans v
  exact jh (jt I d u) j (by rw[D];rfl)
 rcases List.mem_cons.1 l with rfl|l
 ·have j:a.eval (.tmp g)=(lrD x).o 0:=(q _ (List.mem_singleton.2 rfl)).trans v
  exact jh (jt J d u) j (by show _=some (Value.int .i64 (S.i (m+2)));rw[E];rfl)
 obtain rfl:=List.mem_singleton.1 l;have j:a.eval (.tmp g)=(lrD x).o 0:=(q _ (List.mem_singleton.2 rfl)).trans v;exact jh (jt K d u) j (by show _=some (Value.int .i64 (S.i (m+3)));rw[H];rfl)
def LyR(P:aF)(ok:Bool)(pg:Nat)(x:LrE)(w:World):Prop:=
 match ok with
 | false=>x=nw (-1) 1
 | true=>match fA P pg with
  | (none,n,e)=>x=nw n e
  | (some l,n,e)=>x.im=l.image∧x.pg=l.pages∧x.k=n∧x.e=e∧x.n=l.Q3.length∧yC w (.slice x.A x.n x.c) l.Q3
theorem LyR.keep{P:aF}{ok:Bool}{x:LrE}{w':World}(h:LyR P ok pg x w)(hk:Kz w w'):LyR P ok pg x w':=by
 unfold LyR at h⊢;split
 ·exact h
 ·simp only at h
  split
  ·rename_i e;rw[e]at h;exact h
  ·rename_i e
   rw[e]at h;obtain⟨d,g,j,l,q,u⟩:=h;exact⟨d,g,j,l,q,u.keep hk⟩
theorem oF:∀(l:List Region) (S:PS) (out d:List Nat) (S':PS),fD S out l=.inr (d,S')→d.length=out.length+l.length
 | [],_,_,_,_,h=>by cases h;rfl
 | x::l,S,out,d,S',h=>by
  rw[fD]at h;split at h
  ·have:=oF l _ _ _ _ h
   simp only[List.length_append,List.length_cons,List.length_nil]at this⊢;omega
  ·split at h
   ·have:=oF l _ _ _ _ h
    simp only[List.length_append,List.length_cons,List.length_nil]at this⊢;omega
   ·cases h
theorem xV{P:aF}{l:Lay}{n e:Int}(h:fA P pg=(some l,n,e)):l.Q3.length=P.Q3.length:=by
 unfold fA at h;split at h
 ·cases h
 ·rename_i out S d
  split at h
  ·cases h
  ·cases h
   have:=oF _ _ _ _ _ d
   simpa using this
theorem Bo.vars{q w:World}{P:aF}{ok:Bool}{pg:Nat}{v:Ending}(h:Bo q P ok pg v w)(E:P.Q3.length≤4194304):∃x,v=.returned ((lrD x).o 0)∧LyR P ok pg x w∧∀g o,x.A=some ⟨g,o,none⟩→0<x.n→q.heap.size≤g:=by
 have d:∀(k e:Int) g o,(nw k e).A=some ⟨g,o,none⟩→0<(nw k e).n→q.heap.size≤g:=fun k e g o h _=>by cases h
 obtain⟨h,_⟩:=h;unfold LyR
 cases ok with
 | false=>exact⟨nw (-1) 1,h,rfl,d _ _⟩
 | true =>
  simp only at h⊢;split at h
  ·rename_i n e j
   rw[j];exact⟨nw n e,h,rfl,d _ _⟩
  ·rename_i l n e j
   rw[j];obtain⟨u,C,y,I⟩:=h;have B:=yz y (by rw[xV j];exact E);obtain⟨A,c,rfl,_⟩:=id B;refine⟨⟨A,l.Q3.length,c,l.image,l.pages,n,e⟩,C,⟨rfl,rfl,rfl,rfl,rfl,B⟩,fun g o (D:A=some ⟨g,o,none⟩) H=>?_⟩;subst D;exact(y.lt g rfl).1
theorem vd{named:ByteArray→Bool}{bD:Nat→cL→Nat×Int×Int}{P:aF}(h:DK named bD P):Bn P:=
 ⟨fun r g=>by obtain⟨_,_,_,b1,b2⟩:=h.bus.Qg r g;exact⟨b1,b2⟩,fun x d=>⟨lI (h.Q3.one x d).2.2.1,fun _=>lI (h.Q3.one x d).2.2.2.1⟩⟩
theorem qr{v:aX}{P:aF}(h:bO B w v P)(u:fH B w)(l:B≤w.heap.size){ok:Bool}(j:ok=true↔jV (ci gK) aZ P):
 Calls Tryz.prog 16 #[.agg (v.cells P).toArray] w fun y w'=>∃x,y=.returned ((lrD x).o 0)∧LyR P ok (pages aZ P) x w'∧Kz w w'∧∀g o,x.A=some ⟨g,o,none⟩→0<x.n→w.heap.size≤g:=by
 refine(BP h l (ok:=ok) (pg:=pages aZ P) (fun w' d=>?_) (fun w' d=>?_) (fun e=>vd (gz (j.1 e))) (fun e=>?_)).mono fun y w' C=>?_
 ·refine(qQ np (bO.kept h l d) (u.below (d.below (B:=B) l fun _ _ e=>e)) (by have:=d.size;omega)).mono fun e K ⟨⟨a,x,I,J⟩,hk⟩=>⟨⟨a,x,I,?_⟩,hk⟩
  rw[j];exact(nJ J).1
 ·exact lY (bO.kept h l d) (by have:=d.size;omega)
 ·have:=(gz (j.1 e)).image
  omega
 ·obtain⟨x,D,E,H⟩:=C.vars (by obtain⟨_,_,_,_,q,_⟩:=h.Q3;unfold top at q;omega)
  exact⟨x,D,E,C.2,H⟩
theorem vr{S:Sta}{m:Nat}{d:Sta}(h:24≤m):Agr (lo 24) S (S.put m d):=(aP _ m _).mono (zK h)
def kF(m:Nat):List Cl := .i .i64 (.x m) :: .s (.x m)::(List.range 12).map fun j =>.sl (m+j) (m+j) (m+12+j)
theorem kc{v:aX}{P:aF}(h:bO B w v P)(S:Sta)(κ:Kap):SV.den (S.put 40 (ce v P)) κ (.ag (kF 40))=.agg (v.cells P).toArray:=by
 rw[←lT h κ];rfl
theorem fH.kept{B':Nat}{w':World}(h:fH B w)(g:B≤w.heap.size)(hk:Kz w w')(d:B≤B'):fH B' w':=by
 have h:=h.below (hk.below (B:=B) g fun _ _ e=>e);exact⟨by have:=h.pos;omega,h.err,fun w' j=>h.scan w' (j.mono d)⟩
end Go.Proofs.YthobcefghkeddaaGreatDoor.Rs
namespace Go.Proofs.YthobcefghkeddaaGreatDoor.Rs
open Go.RowKit Go.Proofs.YthobcefghkeddaaGreatDoor Ck
variable {B:Nat} {w:World}
theorem xL{P:Program}{o:Oper}{f:FuncId}{t t2:Nat}(d:o.op=.makeFunc (.func f) #[] #[.tmp t,.tmp t2]){a:Act}{w:World}:(execOp a.eval o).run P w=.ok (.value (.func (.func f) #[] #[a.eval (.tmp t),a.eval (.tmp t2)])) w:=by
 obtain⟨dst,op,ty,pos,h,g⟩:=o;simp only at d;subst d;simp[execOp,Instr.makeFunc]
def hoF:Fr:=[(2,.one (.p 0 0)),(3,.one (.p 1 0))]
def hoM:Mm:=[(0,bM),(1,lrL 24)]
theorem yp{w':World}{v:aX}{P:aF}(h:bO B w v P)(g:fH B w)(j:B≤w.heap.size)(hk:Kz w w'):Calls Tryz.prog 10 #[.agg (v.cells P).toArray] w' fun e d=>(∃a x:Int,e=.returned (.tuple #[.int .i64 a,.int .i64 x])∧(x=0↔jV (ci gK) aZ P))∧Kz w' d:=
 (qQ np (bO.kept h j hk) (g.below (hk.below (B:=B) j fun _ _ e=>e)) (by have:=hk.size;omega)).mono fun e d ⟨⟨a,x,l,q⟩,hk⟩=>⟨⟨a,x,l,(nJ q).1⟩,hk⟩
theorem zh{v:aX}{P:aF}(h:bO B w v P)(j:fH B w)(L:B≤w.heap.size)(O:¬ jV (ci gK) aZ P)(x:LrE):
 Calls Tryz.prog 20 #[.agg (v.cells P).toArray,sL (.slice x.A x.n x.c) x.im x.pg] w fun e w'=>e=.returned (.int .i64 1)∧Kz w w':=by
 obtain⟨R,D⟩:∃R:Ending→World→Prop,R=fun e w'=>e=.returned (.int .i64 1)∧Kz w w':=⟨_,rfl⟩
 rw[←D];refine fnE ((ce v P).put 24 (lrD x)) (fun _=>(0,0)) [.ag bM,.ag (lrL 24)] Tryz.func20 Tryz.ntmps20 rfl (by rw[List.map_cons,bn h (aP _ 24 _)];rfl) ψ H0 (fun _ h=>h.elim) trivial fun a N hh=>?_
 refine bG 1 (fun _=>true) hoF hoM 2 [] hPp δ hh fun κ1 Z w1 V C=>?_
 refine nU 1 10 [.ag bM] (.tu [.i .i64 (.x 32),.i .i64 (.x 33)]) 32 (fun d _=>∃a x,d=tw a x∧(x=0↔jV (ci gK) aZ P)) (fun _=>true) ((6,.one (.i .i64 (.x 33)))::hoF) hoM 2 δ V (fun w' q=>?_) fun κ2 a2 w2 d wt ⟨xa,I,g,u⟩ kt W E=>?_
 ·rw[List.map_cons,bn h (aP _ 24 _)]
  exact(yp h j L (K3 C.keep q)).mono fun e Y ⟨⟨a,x,J,K⟩,e3⟩=>⟨_,⟨a,x,rfl,K⟩,J,e3⟩
 subst g;have l:(I !=0)=true:=by
  have:I≠0:=fun e=>O (u.1 e)
  simpa using this
 refine dw 2 (fun _=>true) [(4,.one (.i .i64 (.c 1)))] [] 2 [] hPp δ (W.more [(.cmp .neq (.x 33) (.c 0),true)] [] [] (fa1 l) (fun y U=>by cases U) (fun i x Q=>by cases Q)) fun κ3 a3 w3 X H=>?_
 exact gR 4 rfl X.has rfl (H.agree.defers.trans (E.agree.defers.trans (C.agree.defers.trans N))) (by rw[D];exact⟨rfl,K3 (K3 C.keep E.keep) H.keep⟩)
def pgD(n:Nat):Sta where
 i _:=n
def EC:Kn:={ KO:=[(38,[(7,.one (.p 2 0)),(8,.one (.p 3 0))],.one (.v 56))] }
def hoD(bg bt:Nat):Sta where
 o _ := .func (.func 59) #[] #[.pointer (some ⟨bg,0,none⟩),.pointer (some ⟨bt,0,none⟩)]
def elD(p u:Nat):Sta where
 i j:=match j with|0=>p|_=>u
def hoR:Fr:=(41,.one (.i .i64 (.ln 2)))::(40,.one (.sl 2 2 14))::(9,.one (.v 56))::hoF
def ED:List (FuncId×List SV×SV):=[(59,[.one (.i .u64 (.x 80)),.one (.i .u64 (.x 73)),.one (.i .u64 (.x 81)),.one (.b (.c true)),.one (.p 2 0),.one (.p 3 0)],.one (.i .i64 (.c 0)))]
def Do:List (FuncId×List SV×SV):=[(55,[.ag (lS 72)],.one (.i .u64 (.x 81)))]
def HoW(w0:World)(bg bt:Nat)(P:aF)(l:Lay)(eg:SlE)(k:Nat)(w:World):Prop:=dB w0 bg (dQ P) eg w∧∃et,dB w0 bt (tak P l k) et w
theorem HoW.keep{q w':World}{d g:Nat}{P:aF}{l:Lay}{j:SlE}{k:Nat}(hk:Kz w w')(h:HoW q d g P l j k w):HoW q d g P l j k w':=⟨h.1.keep hk,by obtain⟨et,u⟩:=h.2;exact⟨et,u.keep hk⟩⟩
theorem zg{v:aX}{P:aF}(h:bO B w v P)(c3:fH B w)(hB:B≤w.heap.size)(U:jV (ci gK) aZ P){l:Lay}(Q:lH P l)(c4:l.pages=pages aZ P){x:LrE}(c5:x.im=l.image)(b3:x.pg=l.pages)(b4:x.n=l.Q3.length)(c6:yC w (.slice x.A x.n x.c) l.Q3):
 Calls Tryz.prog 20 #[.agg (v.cells P).toArray,sL (.slice x.A x.n x.c) x.im x.pg] w fun e w'=>e=.returned (.int .i64 0)∧Kz w w':=by
 obtain⟨R,hR⟩:∃R:Ending→World→Prop,R=fun e w'=>e=.returned (.int .i64 0)∧Kz w w':=⟨_,rfl⟩
 rw[←hR];have bb:=gz U;have N:=vd bb;have dt:P.Q3.length≤2097152:=by obtain⟨_,_,_,_,Q,_⟩:=h.Q3;exact Q
 refine fnE ((ce v P).put 24 (lrD x)) (fun _=>(0,0)) [.ag bM,.ag (lrL 24)] Tryz.func20 Tryz.ntmps20 rfl (by rw[List.map_cons,bn h (aP _ 24 _)];rfl) ψ H0 (fun _ h=>h.elim) trivial fun a hd hh=>?_
 refine bG 1 (fun _=>true) hoF hoM 2 [] hPp δ hh fun κ1 a1 w1 n1 p1=>?_
 refine nU 1 10 [.ag bM] (.tu [.i .i64 (.x 32),.i .i64 (.x 33)]) 32 (fun d _=>∃a x,d=tw a x∧(x=0↔jV (ci gK) aZ P)) (fun _=>true) ((6,.one (.i .i64 (.x 33)))::hoF) hoM 2 δ n1 (fun w' E=>?_) fun κ2 a2 w2 d wt ⟨xa,xe,cu,c7⟩ kt n2 p2=>?_
 ·rw[List.map_cons,bn h (aP _ 24 _)]
  exact(yp h c3 hB (K3 p1.keep E)).mono fun e bo ⟨⟨a,x,e1,e2⟩,e3⟩=>⟨_,⟨a,x,rfl,e2⟩,e1,e3⟩
 subst cu;have b0:=K3 p1.keep p2.keep;have hz:xe=0:=c7.2 U;have n3:=(n2.lay 40 (pgD l.pages) δ).more [(.cmp .neq (.x 33) (.c 0),false),(.cmp .neq (.ln 24) (.ln 2),false),(.cmp .neq (.x 25) (.x 40),false)] [(23,[.ag bM],.one (.i .i64 (.x 40)))] [] (fac (by show(xe !=0)=false;rw[hz];rfl) (fac (by show((x.n:Int)!=(P.Q3.length:Int))=false;rw[b4,Q.len];simp) (fac (by show(x.pg !=(l.pages:Int))=false;rw[b3];simp) gJ))) (fun y hy w' E=>by
  obtain rfl:=List.mem_singleton.1 hy;rw[List.map_cons,bn h (((aP _ 24 _).trans (vr ψ)).trans (vr ψ))];have hk:=K3 b0 E;have:=lY (bO.kept h hB hk) (by have:=hk.size;omega);rw[←c4]at this;exact this) (fun i x hx=>by cases hx)
 refine bG 2 (fun _=>true) hoF hoM 2 [] hPp δ n3 fun κ3 a3 w3 n4 p3=>?_
 have bc:=K3 b0 p3.keep;refine nU 1 58 [.ag bM] (.ag [.sl 48 49 50]) 48 (fun d w4=>∃e:SlE,d=slD e∧∃L,e.n=L.length∧av w4 (.slice e.A e.n e.c) L∧(∀q,q<w3.heap.size→aJ w4 q (.slice e.A e.n e.c) L)∧dV L∧∀q,aY L q↔dQ P q) (fun _=>true) ((7,.one (.p 2 0))::hoF) ((2,[.sl 48 49 50])::hoM) 3 δ n4.bare (fun w' E=>?_) fun κ4 a4 w4 d0 wf ⟨V,cs,L,l1,l2,l3,l4,l5⟩ ca n5 p4=>?_
 ·rw[List.map_cons,bn h (((aP _ 24 _).trans (vr ψ)).trans (vr ψ))]
  have hk:=K3 bc E;refine(vQ (bO.kept h hB hk) (by have:=hk.size;omega) N).mono fun e bo ⟨u,l,y1,y2,y3,y4,y5,y6⟩=>?_
  obtain⟨A',c',rfl,_⟩:=id y2;exact⟨_,⟨⟨A',l.length,c'⟩,rfl,l,rfl,y2,fun q hq=>y3 q (by have:=E.size;omega),y4,y5⟩,y1,y6⟩
 subst cs;obtain⟨y1,y2,y3⟩:=p4.new.row n5.mem (r:=2) rfl ψ ψ;obtain⟨I,bw⟩:∃b,b=(κ4 2).1:=⟨_,rfl⟩;rw[←bw]at y1 y3;have c8:κ4 2=(I,0):=Prod.ext bw.symm y2;refine gv (CL:={}) (fun _=>true) ((7,.one (.p 2 0))::(8,.one (.p 3 0))::hoF) ((3,[.l (.slice none 0 0)])::(2,[.sl 48 49 50])::hoM) 4 [] δ n5 eF fun κ5 a5 w5 n6 p5=>?_
 obtain⟨t1,t2,t3⟩:=p5.new.row n6.mem (r:=3) rfl ψ ψ;obtain⟨D,bx⟩:∃b,b=(κ5 3).1:=⟨_,rfl⟩;rw[←bx]at t1 t3;have b6:κ5 3=(D,0):=Prod.ext bx.symm t2;have b5:κ5 2=(I,0):=(p5.upto 2 ψ).trans c8;have d7:I<D:=by have:=y1.lt;omega
 refine gv (CL:=EC) (fun _=>true) ((9,.one (.v 56))::hoF) hoM 4 [] δ (n6.lay 56 (hoD I D) δ) ⟨(fun _ h=>by cases h),fun y hy o ho hd a w ha=>by
  obtain rfl:=List.mem_singleton.1 hy;have h7:a.eval (.tmp 7)=.pointer (some ⟨(κ5 2).1,(κ5 2).2+0,none⟩):=ha _ List.mem_cons_self;have h8:a.eval (.tmp 8)=.pointer (some ⟨(κ5 3).1,(κ5 3).2+0,none⟩):=ha _ (List.mem_cons_of_mem _ (List.mem_singleton.2 rfl));rw[b5]at h7;rw[b6]at h8;rw[xL (f:=59) (t:=7) (t2:=8) (jt (op := .makeFunc (.func 59) #[] #[.tmp 7,.tmp 8]) rfl ho hd),h7,h8];rfl⟩ fun κ6 a6 w6 n8 p6=>?_
 refine bG 1 (fun _=>true) ((42,.one (.i .i64 (.c 0)))::hoR) hoM 4 [] hPp δ n8 fun J a7 w7 n9 p7=>?_
 have X:J 2=(I,0):=(p7.upto 2 ψ).trans ((p6.upto 2 ψ).trans b5);have ad:J 3=(D,0):=(p7.upto 3 ψ).trans ((p6.upto 3 ψ).trans b6);have cb:Kz wf w7:=K3 (K3 (K3 ca p5.keep) p6.keep) p7.keep;have bd:Kz w4 w7:=K3 (K3 p5.keep p6.keep) p7.keep;have b1:Kz w w7:=K3 (K3 bc p4.keep) bd;have be:∀r,r<2→(J r).1<w3.heap.size:=fun r U=>by
  have e7:J r=κ3 r:=(p7.upto r (by show r<4;omega)).trans ((p6.upto r (by show r<4;omega)).trans ((p5.upto r (by show r<3;omega)).trans (p4.upto r (by show r<2;omega))));rw[e7]
  match r,U with
  | 0,_=>exact(n4.mem.get 0 _ rfl).1.1
  | 1,_=>exact(n4.mem.get 1 _ rfl).1.1
 have b2:w.heap.size≤D:=by have:=bc.size;have:=p4.keep.size;omega
 have d9:w3.heap.size≤w7.heap.size:=(K3 p4.keep bd).size;have bm:Row w7 D [.slice none 0 0]:=(t1.keep p6.keep fun h=>h).keep p7.keep fun h=>h
 have cx:∀g o,V.A=some ⟨g,o,none⟩→0<V.n→g≠D:=fun g o N hn=>by
  obtain⟨A,c,e1,_,_,e2⟩:=l2;obtain⟨g',e3,e4,_⟩:=e2 χ;simp only[Value.slice.injEq]at e1;have:=e1.1;rw[N,e3]at this
  cases this
  have:=ca.size;omega
 have i0:HoW w3 I D P l V 0 w7:=⟨⟨y1.keep bd fun h=>h,L,l1,l2.keep cb,fun q hq=>aJ.keep (l3 q hq) (cb.mono fun _ _ h=>h.elim),l4,l5⟩,_,dB.nil bm fun q=>yS q⟩;have cc:=n9.mute (Gh.of (fun g=>g=D) (fun _=>True) (fun _ _ _ _=>trivial)) hoM [] δ (fun r m hm e=>by
  have U:r<2:=by
   rcases List.mem_cons.1 (iI hm)with e|e
   ·cases e;omega
   ·cases List.mem_singleton.1 e;omega
  have:=be r U;have e:(J r).1=D:=e;omega) (fun g N=>by rw[show g=D from N];exact bm.lt) trivial
 have cv:a7.defers=[]:=p7.agree.defers.trans (p6.agree.defers.trans (p5.agree.defers.trans (p4.agree.defers.trans (p3.agree.defers.trans (p2.agree.defers.trans (p1.agree.defers.trans hd))))));have uc:∀b,cK b=4096∨cK b=2097152:=fun b=>by unfold cK;cases b<;>simp
 refine bL (oL cc P.Q3.length 64 42 2 hoR (fun _=>true) (fun _:Unit=>{}) (fun k _ w=>HoW w3 I D P l V k w) (fun _ _ _ _ hk h=>h.keep hk) () hPp δ rfl χ i0 (cc.has.re ⟨rfl,rfl,rfl,rfl,rfl,rfl,trivial⟩) (fun k e a8 w8 hk af hA hK=>?_) fun e a8 w8 af hA hK=>?_)
 ·obtain⟨y,hy⟩:=ge hk
  obtain⟨p,hp⟩:=ge (show k<l.Q3.length by rw[Q.len];exact hk);have K:aD (fun g=>g=D) w7 w8:=hK;have ac:∀g,g=D→w.heap.size≤g:=fun g N=>χ
  have bs:Kz w w8:=aT b1 K ac;obtain⟨g,o,h1,h2,h3⟩:=dF h.Q3 (aI _ _ _) hB bs hy;have d4:g<w.heap.size:=by
   obtain⟨g',o',bp,cp,_⟩:=dF h.Q3 (aI _ _ _) hB (aD.refl (fun _=>False) w) hy;rw[h1]at bp
   cases bp
   exact cp
  obtain⟨κ9,u9,bf⟩:=af.elem (j:=2) (x:=nY y) (cl:=lS 72) h1 ⟨h2,fun e=>by have:=ac g e;omega⟩ hk h3.1 rfl δ;refine ak (bG 1 (fun _=>true) ((10,.one (.i .i64 (.x 64)))::(11,.one (.p 5 0))::fx 64 42 hoR) ((5,lS 72)::hoM) 6 [] hPp δ bf fun eb d1 Z an Y=>?_);obtain⟨A,c,e1,_,_,e2⟩:=id c6;obtain⟨gl,e3,bz,hm⟩:=e2 (by have:=Q.len;omega);simp only[Value.slice.injEq]at e1;have a0:Kz w Z:=aT bs Y.keep ac;obtain⟨H,dk,_,c9⟩:=(an.lay 80 (elD p (cK y.big)) δ).base gl k [.i .u64 (.x 80)] ⟨Nat.lt_of_lt_of_le bz a0.size,fun e=>by have:=ac gl e;omega⟩ (fun j v hj=>by
   match j,hj with
   | 0,hj =>
    obtain rfl:=Option.some.inj hj;exact(a0.cell (p:=⟨_,_,none⟩) bz id).trans (hm k p hp)) [(24,1,.x 64,24,6)] δ (fun z hz=>by
   obtain rfl:=List.mem_singleton.1 hz;refine⟨?_,?_,gl,0,e1.1.trans e3,?_⟩
   ·show(0:Int)≤(k:Int);omega
   ·show(k:Int)<((x.n:Nat):Int);rw[b4,Q.len];omega
   ·show(gl,k)=(gl,0+(k:Int).toNat*1)
    congr 1
    omega)
  have W:∀r,r<4→H r=J r:=fun r U=>(dk r χ).trans ((Y.upto r (by show r<5;omega)).trans (u9 r U))
  have O:=zW Q.len hy hp;obtain⟨s0,s1,s2,s3⟩:=Q.one k p y.size O;obtain⟨f1,f2⟩:=Q.fixed k p y hy hp;have dc:=c9.setH (Gh.two (fun g=>g=D) (fun w=>HoW w3 I D P l V k w) (fun w=>HoW w3 I D P l V (k+1) w) (fun _ _ hk h=>h.keep hk) (fun _ _ hk h=>h.keep hk)) (fun _=>Iff.rfl) [] (show HoW w3 I D P l V k Z from an.gh);obtain⟨FA,hc,hF⟩:∃FA:List (BE×Bool),(FA=[(.x 72,true),(.cmp .eql (.x 80) (.x 74),true)]∨FA=[(.x 72,false)])∧∀z∈FA,z.1.den (((((((ce v P).put 24 (lrD x)).put 32 (tw xa xe)).put 40 (pgD l.pages)).put 48 (slD V)).put 56 (hoD I D)).put 64 (((({}:Sta).put 8 (nY y)).cnt k)) |>.put 80 (elD p (cK y.big)))=z.2:=by
   cases hfx:y.fixed with
   | true =>
    exact⟨_,.inl rfl,sk hfx (by
     show((p:Int)==(y.Q7:Int))=true;rw[f1 hfx];simp)⟩
   | false=>exact⟨_,.inr rfl,fa1 hfx⟩
  refine By (C:={ EL:=[(24,1,.x 64,24,6)],FA:=FA,CT:=Do,ET:=ED }) (CL:={ CL:=[(56,59,[.one (.p 2 0),.one (.p 3 0)])] }) 70 0 (fun _=>true) ((12,.one (.i .i64 (.c 0)))::fx 64 42 hoR) hoM 7 hPp (by rcases hc with rfl|rfl<;>kernel_rfl) (dc.more FA Do [] hF (fun z hz w' hw=>by
   obtain rfl:=List.mem_singleton.1 hz;exact qT y w') (fun i x hx=>by cases hx)) ⟨fun z hz=>by
   obtain rfl:=List.mem_singleton.1 hz;show Value.func (.func 59) #[] #[.pointer (some ⟨I,0,none⟩),.pointer (some ⟨D,0,none⟩)]=.func (.func 59) #[] #[.pointer (some ⟨(H 2).1,(H 2).2+0,none⟩),.pointer (some ⟨(H 3).1,(H 3).2+0,none⟩)];rw[W 2 ψ,W 3 ψ,X,ad],fun _ h=>by cases h⟩ (fun z hz w' hw cy=>by
   obtain rfl:=Option.some.inj hz;obtain⟨hG,et,hE⟩:=(show HoW w3 I D P l V k w' from cy);show Calls Tryz.prog 59 #[.int .u64 p,.int .u64 y.size,.int .u64 (cK y.big),.bool true,.pointer (some ⟨(H 2).1,(H 2).2+0,none⟩),.pointer (some ⟨(H 3).1,(H 3).2+0,none⟩)] w' _;rw[W 2 ψ,W 3 ψ,X,ad];refine(sQ hG hE (by have:=K.size;have:=hw.size;have:=(show aD (fun g=>g=D) w8 Z from Y.keep).size;omega) f2 s1 (N.reg y (List.mem_of_getElem? hy)).1 s0 s2 (uc _) fun q q1 q2=>Q.fresh O q q1 q2).mono fun en bo ⟨q1,q2,e',q3,q4⟩=>⟨q1,q2,hG.other q2 (fun e=>by have e:I=D:=e;omega) (fun g o N hn=>cx g o N hn),e',?_⟩
   have:(fun q=>tak P l k q∨(p≤q∧q<p+y.size))=tak P l (k+1):=funext fun q=>propext (yT O q).symm
   rwa[this]at q3) fun d2 cj di cf=>?_
  exact bG 2 (fun _=>true) (fx 64 42 hoR) hoM 7 [0] hPp (by rcases hc with rfl|rfl<;>kernel_rfl) di fun ds d3 cm cd bl=>dA rfl ⟨(),ds,(show HoW w3 I D P l V (k+1) cm from cd.gh),fun r (U:r<4)=>(bl.upto r (by show r<7;omega)).trans (W r U),cd.has.re ⟨rfl,rfl,rfl,rfl,rfl,rfl,trivial⟩,((hA.trans Y.agree fun _ h=>h).trans cf.agree fun _ h=>h).trans bl.agree fun _ h=>h,((K.trans (show aD (fun g=>g=D) w8 Z from Y.keep) fun _ _ h=>h).trans (show aD (fun g=>g=D) Z cj from cf.keep) fun _ _ h=>h).trans (show aD (fun g=>g=D) cj cm from bl.keep) fun _ _ h=>h⟩
 ·have K:aD (fun g=>g=D) w7 w8:=hK
  have hW:HoW w3 I D P l V P.Q3.length w8:=af.gh;have O:=uU Q.len;obtain⟨s0,s1,s2,s3⟩:=Q.one _ _ _ O;have bf:=af.mute H0 hoM [] δ (fun _ _ _ h=>h) (fun _ h=>h.elim) trivial;refine Bv (T2:=fun g=>g=D) 7 56 3 59 [.one (.i .u64 (.x 24)),.one (.i .u64 (.bin .mul .u64 (.cv .u64 (.x 25)) (.c 4096))),.one (.i .u64 (.c 4096)),.one (.b (.c true))] [.one (.p 2 0),.one (.p 3 0)] (.one (.i .i64 (.x 80))) 80 (fun d _=>d=pgD 0) (fun _=>true) [(4,.one (.i .i64 (.x 80)))] [] 4 δ bf (fun r U=>?_) (fun g N=>by rw[show g=D from N];exact Nat.lt_of_lt_of_le bm.lt K.size) ?_ (fun w' E=>?_) fun κ9 a9 w9 d ea cw d8 an u9 k9 g9=>?_
  ·match r,U with
   | 0,_=>exact .inr fun e=>by have e:(J 0).1=D:=e;have:=be 0 ψ;omega
   | 1,_=>exact .inr fun e=>by have e:(J 1).1=D:=e;have:=be 1 ψ;omega
   | 2,_=>exact .inr fun e=>by have e:(J 2).1=D:=e;rw[X]at e;have e:I=D:=e;omega
   | 3,_=>exact .inl rfl
  ·show Value.func (.func 59) #[] #[.pointer (some ⟨I,0,none⟩),.pointer (some ⟨D,0,none⟩)]=.func (.func 59) #[] #[.pointer (some ⟨(J 2).1,(J 2).2+0,none⟩),.pointer (some ⟨(J 3).1,(J 3).2+0,none⟩)]
   rw[X,ad]
  ·show Calls Tryz.prog 59 #[.int .u64 x.im,.int .u64 (IntKind.u64.wrap (IntKind.u64.wrap x.pg*4096)),.int .u64 4096,.bool true,.pointer (some ⟨(J 2).1,(J 2).2+0,none⟩),.pointer (some ⟨(J 3).1,(J 3).2+0,none⟩)] w' _
   rw[X,ad,b3,cN (x:=(l.pages:Int)) χ,cN χ,show((l.pages:Int)*4096)=((l.pages*4096:Nat):Int) by omega,c5];obtain⟨hG,et,hE⟩:=hW.keep E;exact(sQ hG hE (by have:=K.size;have:=E.size;omega) (Q7:=l.image) (size:=l.pages*4096) (al:=4096) s1 s1 χ s0 s2 (.inl rfl) fun q q1 q2=>Q.fresh O q q1 q2).mono fun en bo ⟨q1,q2,_⟩=>⟨_,rfl,q1,q2⟩
  ·subst cw
   refine kD (gR 4 rfl an.has rfl (g9.defers.trans (hA.defers.trans cv)) ?_);rw[hR];exact⟨rfl,aT (aT b1 K fun g N=>by rw[show g=D from N];exact b2) k9 fun g N=>by rw[show g=D from N];exact b2⟩
