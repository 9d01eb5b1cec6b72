import Derived.Test.YthobcefghkeddaaGreatDoorPl12
import Derived.Test.YthobcefghkeddaaGreatDoorCheckB
import Derived.Test.YthobcefghkeddaaGreatDoorNamedS
import Derived.Lib.LaidU8
import Derived.Deep.DeepWitnessRowRef
import Derived.Test.YthobcefghkeddaaGreatDoorCards
import Derived.Test.YthobcefghkeddaaGreatDoorTie
set_option maxRecDepth 100000
set_option linter.all false
set_option maxHeartbeats 4000000
namespace Go.Proofs.YthobcefghkeddaaGreatDoor
namespace Rs
open Go.RowKit Ck
variable {ok:Bool} {pg B:Nat} {w w':World}
structure LrE where
 A:Option Addr
 n:Nat
 c:Nat
 im:Nat
 pg:Int
 k:Int
 e:Int
def se(k e:Int):LrE:=⟨none,0,0,0,0,k,e⟩
def lrD(x:LrE):Sta where
 i j:=match j with|0=>x.im|1=>x.pg|2=>x.k|_=>x.e
 a _:=x.A
 n j:=match j with|0=>x.n|_=>x.c
 o _ := .tuple #[AY (.slice x.A x.n x.c) x.im x.pg,.int .i64 x.k,.int .i64 x.e]
def lrL(m:Nat):List Cl:=[.sl m m (m+1),.i .u64 (.x m),.i .i64 (.x (m+1))]
def CF(m td t0 t1 t2:Nat):Kn:={ KO:=[(t0,[(td,.one (.v m))],.ag (lrL m)),(t1,[(td,.one (.v m))],.one (.i .i64 (.x (m+2)))),(t2,[(td,.one (.v m))],.one (.i .i64 (.x (m+3))))] }
theorem rH{S:Sta}{κ:Kap}{P:Program}{ops:List Oper}{m g B C D:Nat}(x:LrE)(J:((ops.filter fun o=>o.dst==some B).map (·.op))=[.extract (.tmp g) 0])(K:((ops.filter fun o=>o.dst==some C).map (·.op))=[.extract (.tmp g) 1])(L:((ops.filter fun o=>o.dst==some D).map (·.op))=[.extract (.tmp g) 2])
 (v:S.o m=(lrD x).o 0)(E:SV.den S κ (.ag (lrL m))=AY (.slice x.A x.n x.c) x.im x.pg)(H:S.i (m+2)=x.k)(I:S.i (m+3)=x.e):gJ S κ P ops (CF m g B C D):=by
 refine⟨(fun _ h=>by cases h),fun y l o d u a w q=>?_⟩
 rcases List.mem_cons.1 l with rfl|l
 ·have j:a.eval (.tmp g)=(lrD x).o 0:=(q _ (List.mem_singleton.2 rfl)).trans v
  exact js (lF J d u) j (by rw[E];rfl)
 rcases List.mem_cons.1 l with rfl|l
 ·have j:a.eval (.tmp g)=(lrD x).o 0:=(q _ (List.mem_singleton.2 rfl)).trans v
  exact js (lF K d u) j (by show _=some (Value.int .i64 (S.i (m+2)));rw[H];rfl)
 obtain rfl:=List.mem_singleton.1 l;have j:a.eval (.tmp g)=(lrD x).o 0:=(q _ (List.mem_singleton.2 rfl)).trans v;exact js (lF L d u) j (by show _=some (Value.int .i64 (S.i (m+3)));rw[I];rfl)
def LyR(P:aF)(ok:Bool)(pg:Nat)(x:LrE)(w:World):Prop:=
 match ok with
 | false=>x=se (-1) 1
 | true=>match dU P pg with
  | (none,n,e)=>x=se n e
  | (some l,n,e)=>x.im=l.image∧x.pg=l.pages∧x.k=n∧x.e=e∧x.n=l.Q3.length∧nK w (.slice x.A x.n x.c) l.Q3
theorem LyR.keep{P:aF}{x:LrE}(h:LyR P ok pg x w)(hk:Kz w w'):LyR P ok pg x w':=by
 unfold LyR at h⊢;split
 ·exact h
 ·simp only at h
  split
  ·rename_i e;rw[e]at h;exact h
  ·rename_i e
   rw[e]at h;obtain⟨d,g,j,l,q,u⟩:=h;exact⟨d,g,j,l,q,u.keep hk⟩
theorem LyR.other{P:aF}{x:LrE}{T:Nat→Prop}(h:LyR P ok pg x w)(hk:aD T w w')(I:∀g o,x.A=some ⟨g,o,none⟩→0<x.n→¬ T g):LyR P ok pg x w':=by
 unfold LyR at h⊢;split
 ·exact h
 ·simp only at h
  split
  ·rename_i e;rw[e]at h;exact h
  ·rename_i l n e j
   rw[j]at h;obtain⟨B,C,D,E,H,A,c,d,L,N,O⟩:=h;refine⟨B,C,D,E,H,A,c,d,L,N,fun v=>?_⟩;obtain⟨g,q,u,J⟩:=O v;simp only[Value.slice.injEq]at d;exact⟨g,q,Nat.lt_of_lt_of_le u hk.size,fun i y K=>(hk.cell (p:=⟨_,_,none⟩) u (I g 0 (d.1.trans q) χ)).trans (J i y K)⟩
theorem oW:∀(l:List Region) (S:PS) (out d:List Nat) (S':PS),gH S out l=.inr (d,S')→d.length=out.length+l.length
 | [],_,_,_,_,h=>by cases h;rfl
 | x::l,S,out,d,S',h=>by
  rw[gH]at h;split at h
  ·have:=oW l _ _ _ _ h
   simp only[List.length_append,List.length_cons,List.length_nil]at this⊢;omega
  ·split at h
   ·have:=oW l _ _ _ _ h
    simp only[List.length_append,List.length_cons,List.length_nil]at this⊢;omega
   ·cases h
theorem yQ{P:aF}{l:Lay}{n e:Int}(h:dU P pg=(some l,n,e)):l.Q3.length=P.Q3.length:=by
 unfold dU at h;split at h
 ·cases h
 ·rename_i out S d
  split at h
  ·cases h
  ·cases h
   have:=oW _ _ _ _ _ d
   simpa using this
theorem Cq.vars{q w:World}{P:aF}{ok:Bool}{pg:Nat}{v:Ending}(h:Cq q P ok pg v w)(E:P.Q3.length≤4194304):∃x,v=.returned ((lrD x).o 0)∧LyR P ok pg x w∧∀g o,x.A=some ⟨g,o,none⟩→0<x.n→q.heap.size≤g:=by
 have d:∀(k e:Int) g o,(se k e).A=some ⟨g,o,none⟩→0<(se k e).n→q.heap.size≤g:=fun k e g o h _=>by cases h
 obtain⟨h,_⟩:=h;unfold LyR
 cases ok with
 | false=>exact⟨se (-1) 1,h,rfl,d _ _⟩
 | true =>
  simp only at h⊢;split at h
  ·rename_i n e j
   rw[j];exact⟨se n e,h,rfl,d _ _⟩
  ·rename_i l n e j
   rw[j];obtain⟨u,C,y,I⟩:=h;have B:=AG y (by rw[yQ j];exact E);obtain⟨A,c,rfl,_⟩:=id B;refine⟨⟨A,l.Q3.length,c,l.image,l.pages,n,e⟩,C,⟨rfl,rfl,rfl,rfl,rfl,B⟩,fun g o (D:A=some ⟨g,o,none⟩) H=>?_⟩;subst D;exact(y.lt g rfl).1
theorem CO{named:ByteArray→Bool}{b8:Nat→cN→Nat×Int×Int}{P:aF}(h:Ey named b8 P):Cp P:=
 ⟨fun r g=>by obtain⟨_,_,_,b1,b2⟩:=h.bus.Qh r g;exact⟨b1,b2⟩,fun x d=>⟨qG (h.Q3.one x d).2.2.1,fun _=>qG (h.Q3.one x d).2.2.2.1⟩⟩
theorem rI{v:aY}{P:aF}(h:ax B w v P)(u:io B w)(l:B≤w.heap.size){ok:Bool}(j:ok=true↔mw (eN jd) ae P):
 Calls Tryz.prog 16 #[.agg (v.cells P).toArray] w fun y w'=>∃x,y=.returned ((lrD x).o 0)∧LyR P ok (pages ae P) x w'∧Kz w w'∧∀g o,x.A=some ⟨g,o,none⟩→0<x.n→w.heap.size≤g:=by
 refine(CI h l (ok:=ok) (pg:=pages ae P) (fun w' d=>?_) (fun w' d=>?_) (fun e=>CO (oE (j.1 e))) (fun e=>?_)).mono fun y w' C=>?_
 ·refine(yn uw (ax.kept h l d) (u.below (d.below (B:=B) l fun _ _ e=>e)) (by have:=d.size;omega)).mono fun e K ⟨⟨a,x,I,J⟩,hk⟩=>⟨⟨a,x,I,?_⟩,hk⟩
  rw[j];exact(uI J).1
 ·exact qU (ax.kept h l d) (by have:=d.size;omega)
 ·have:=(oE (j.1 e)).image
  omega
 ·obtain⟨x,D,E,H⟩:=C.vars (by obtain⟨_,_,_,_,q,_⟩:=h.Q3;unfold top at q;omega)
  exact⟨x,D,E,C.2,H⟩
theorem CJ(P:aF)(pg:Nat):(dU P pg).2.2≠1:=by
 unfold dU;split
 ·show(110:Int)≠1;decide
 ·split
  ·show(110:Int)≠1;decide
  ·show(0:Int)≠1;decide
theorem sL(w:World):nK w (.slice none 0 0) []:=⟨none,0,rfl,Nat.le_refl _,Nat.zero_le _,fun h=>absurd h (Nat.lt_irrefl 0)⟩
theorem LyR.two{P Q:aF}{pg:Nat}{x y:LrE}{w w':World}(g:LyR P true pg x w)(d:LyR Q true pg y w')(H:dU P pg=dU Q pg):
 (∃l,nK w (.slice x.A x.n x.c) l∧nK w' (.slice y.A y.n y.c) l)∧x.im=y.im∧x.pg=y.pg∧x.k=y.k∧x.e=y.e∧x.e≠1:=by
 have h:=CJ P pg;unfold LyR at g d;rw[←H]at d
 revert g d h
 generalize dU P pg=r
 obtain⟨o,n,e⟩:=r
 cases o with
 | none =>
  intro g d h;simp only at g d h;subst g d;exact⟨⟨[],sL _,sL _⟩,rfl,rfl,rfl,rfl,h⟩
 | some l =>
  intro g d h;simp only at g d h;obtain⟨q,u,v,j,_,B⟩:=g;obtain⟨b1,b2,C,D,_,E⟩:=d;exact⟨⟨_,B,E⟩,q.trans b1.symm,u.trans b2.symm,v.trans C.symm,j.trans D.symm,by rw[j];exact h⟩
theorem lS{S:Sta}{m:Nat}{d:Sta}(h:24≤m):Agr (lo 24) S (S.put m d):=(aS _ m _).mono (AS h)
def Bv(m:Nat):List Cl := .i .i64 (.x m) :: .s (.x m)::(List.range 12).map fun j =>.sl (m+j) (m+j) (m+12+j)
theorem sE{v:aY}{P:aF}(h:ax B w v P)(S:Sta)(κ:Kap):SV.den (S.put 40 (cU v P)) κ (.ag (Bv 40))=.agg (v.cells P).toArray:=by
 rw[←lk h κ];rfl
theorem io.kept{B':Nat}(h:io B w)(g:B≤w.heap.size)(hk:Kz w w')(d:B≤B'):io B' w':=by
 have h:=h.below (hk.below (B:=B) g fun _ _ e=>e);exact⟨by have:=h.pos;omega,h.err,fun w' j=>h.scan w' (j.mono d)⟩
end Rs
section
open Go.RowKit Ck
theorem ax.mono{B B':Nat}{w:World}{v:aY}{P:aF}(h:ax B w v P)(d:B≤B'):ax B' w v P:=
 (h.in_.same (fun _ _ g=>Nat.lt_of_lt_of_le g d) (fun _=>ij.refl)).below
end
namespace Rs
open Go.RowKit Go.IntWalk Ck
variable {w:World}
theorem yM{P:Program}{ops:Array Oper}{Q:Exit→Act→World→Prop}{l m:List Oper}{o:Oper}{a:Act}(n:Nat)(h:l[n]?=some o)(d:wpList P ops Q (o::(l.drop (n+1)++m)) a w):wpList P ops Q (l.drop n++m) a w:=by
 obtain⟨hi,rfl⟩:=List.getElem?_eq_some_iff.1 h;rw[List.drop_eq_getElem_cons hi];exact d
theorem AT{P:Program}{ops:Array Oper}{Q:Exit→Act→World→Prop}{l m:List Oper}{a:Act}(n:Nat)(h:wpList P ops Q (l.take n++(l.drop n++m)) a w):wpList P ops Q (l++m) a w:=by
 rw[←List.append_assoc,List.take_append_drop]at h;exact h
theorem xE(x:Int):dx (IntKind.i64.wrap x):=by
 rw[IntKind.wrap_i64];unfold dx;omega
def stD(n:Int):Sta where
 i j:=match j with|0=>n|_=>wi n
def qD(A:Option Addr)(n c:Nat):Sta where
 a _:=A
 n j:=match j with|0=>n|_=>c
def jP:List Cl := .i .i64 (.x 0) :: .s (.x 0)::(List.range 12).map fun j=>bif Nat.beq j 2 then .sl 32 32 33 else .sl j j (12+j)
theorem zw{B:Nat}{v:aY}{P Q:aF}{S:Sta}{A:Option Addr}{n c:Nat}(h:ax B w v P)(q:Agr (lo 24) (cU v P) S)(d:S.a 32=A)(g:S.n 32=n)(e3:S.n 33=c)(j:Q.pos=P.pos)(l:Q.name=P.name)(κ:Kap):
 SV.den S κ (.ag jP)=.agg (aY.cells { v with Q3 := .slice A n c } Q).toArray:=by
 have e:Value.agg (av.map (Cl.den S κ)).toArray=.agg (v.cells P).toArray:=cX h q κ;have e:av.map (Cl.den S κ)=v.cells P:=by
  have:=Value.agg.inj e;exact List.toArray_inj this
 show Value.agg (jP.map (Cl.den S κ)).toArray=_;have:jP.map (Cl.den S κ)=(av.map (Cl.den S κ)).set 4 (.slice (S.a 32) (S.n 32) (S.n 33)):=rfl;rw[this,e,d,g,e3];unfold aY.cells;rw[j,l];rfl
def StW(A:Option Addr)(P:aF)(e:List Region)(w:World):Prop:=
 e.map bare=P.Q3.map bare∧(0<P.Q3.length→∃g,A=some ⟨g,0,none⟩∧g<w.heap.size∧(∃cs E0,w.heap[g]?=some (.cells cs E0 (0,0)))∧∀i x,e[i]?=some x→eS w g (i*10) x)
theorem StW.keep{A:Option Addr}{P:aF}{e:List Region}{w':World}(hk:Kz w w')(h:StW A P e w):StW A P e w':=
 ⟨h.1,fun q=>by
  obtain⟨g,l,d,⟨cs,E0,e3⟩,e4⟩:=h.2 q;exact⟨g,l,Nat.lt_of_lt_of_le d hk.size,⟨cs,E0,(hk.block g d id).trans e3⟩,fun i x j=>⟨(e4 i x j).1.keep hk d id,(e4 i x j).2⟩⟩⟩
theorem StW.set{A:Option Addr}{P:aF}{e:List Region}{g k:Nat}{y q:Region}{w':World}(h:StW A P e w)(C:A=some ⟨g,0,none⟩)(H:0<P.Q3.length)(E:e[k]?=some y)(I:bare q=bare y)(v:Ck.Region.Ok q)(Q:w.heap.size≤w'.heap.size)(d:∃cs E0,w'.heap[g]?=some (.cells cs E0 (0,0)))
 (J:aM w' g (k*10) q.cells)(K:∀j,j<k*10∨k*10+10≤j→w'.cell? ⟨g,j,none⟩=w.cell? ⟨g,j,none⟩):StW A P (e.set k q) w':=by
 obtain⟨N,B,L,_,e4⟩:=h.2 H;rw[C]at B
 cases B
 have hk:=(List.getElem?_eq_some_iff.1 E).1;refine⟨?_,fun _=>⟨g,C,χ,d,fun i x l=>?_⟩⟩
 ·rw[←h.1]
  refine List.ext_getElem? fun i=>?_
  rw[List.getElem?_map,List.getElem?_map,List.getElem?_set];split
  ·rename_i e
   subst e;rw[E];exact congrArg some I
  ·rfl
 ·rw[List.getElem?_set]at l
  split at l
  ·rename_i e
   subst e;obtain rfl:=Option.some.inj l;exact⟨J,v⟩
  ·rename_i e
   obtain⟨c1,c2⟩:=e4 i x l;refine⟨fun j u D=>?_,c2⟩;have O:j<10:=(List.getElem?_eq_some_iff.1 D).1;rw[K _ χ];exact c1 j u D
def stF:Fr:=[(5,.one (.p 1 0)),(2,.one (.p 0 0)),(1,.one (.i .i64 (.x 24)))]
def stM:Mm:=[(0,av),(1,jP)]
def StJ(n:Int)(v:aY)(P:aF)(w:World)(a':Act)(w':World):Prop:=
 ∃(A:Option Addr) (cp:Nat) (e:List Region) (κ:Kap),e.map bare=P.Q3.map bare∧ax w'.heap.size w' { v with Q3 := .slice A P.Q3.length cp } { P with Q3:=e } ∧
  Now (((cU v P).put 24 (stD n)).put 32 (qD A P.Q3.length cp)) κ 120 Tryz.prog {} H0 ⟨stF,stM,2,[]⟩ a' w'∧a'.defers=[]∧Kz w w'
def G2:List (FuncId×List SV×SV):=[(14,[.one (.i .i64 (.x 24)),.one (.i .i64 (.c 1)),.one (.i .i64 (.c 1000))],.one (.i .i64 (.x 25)))]
def stP:IE := .bin .xor .i64 (.x 48) (.x 25)
def stN:IE := .bin .sub .u64 (.c 256) (.bin .rem .u64 (.x 51) (.c 256))
def stC(p f:IE):List Cl:=[.i .i64 p,.s (.x 48),.i .u64 (.x 49),.b (.x 48),.i .u64 (.x 50),.b (.x 49),.b (.x 50),.i .u64 f,.b (.x 51),.s (.x 49)]
theorem uL{B:Nat}{v:aY}{P:aF}(h:ax B w v P)(hB:B≤w.heap.size){n:Int}(hn:dx n){a:Act}(hd:a.defers=[])(hh:Now ((cU v P).put 24 (stD n)) (fun _=>(0,0)) 120 Tryz.prog {} H0 ⟨pG 0 [.ag av,.one (.i .i64 (.x 24))],[],0,[]⟩ a w):
 wpL Tryz.prog (fun x a' w'=>x=.normal∧StJ n v P w a' w') ((b8 (b9 Tryz.f4 [])).take 5) a w:=by
 obtain⟨J,hJ⟩:∃J:Act→World→Prop,J=StJ n v P w:=⟨_,rfl⟩;rw[←hJ];have a6:P.Q3.length≤2097152:=by obtain⟨_,_,_,_,hl,_⟩:=h.Q3;exact hl
 refine bQ 2 (fun _=>true) stF [(0,av),(1,av)] 2 [] hPp δ hh fun Q a1 w1 n1 p1=>?_
 obtain⟨x1,x2,x3⟩:=p1.new.row n1.mem (r:=1) rfl ψ ψ;obtain⟨y1,y2,y3⟩:=p1.new.row n1.mem (r:=0) rfl ψ ψ;have d7:(Q 0).1≠(Q 1).1:=by
  obtain⟨_,_,_,o⟩:=p1.new 1 ψ ψ;have:=o 0 ψ ψ;omega
 refine wH 2 (AU (CL:={}) (fun _=>true) ((15,.one (.sl 2 2 14))::stF) [(0,av),(1,av)] 2 [] δ n1 (fun o ho=>List.mem_of_mem_take ho) eU fun κ2 a2 w2 n2 p2=>?_);have bd:Kz w w2:=p1.keep.trans p2.keep fun _ _ h=>h
 have h2:=ax.kept h hB bd;have c7:a2.eval (.tmp 15)=v.Q3:=by
  rw[n2.has.ev (x := .tmp 15) rfl];exact au h2.Q3
 refine yM 2 rfl (qo (RF:=fun _=>eS) (D:=fun _ _=>False) mi Tryz.underlying24 Tryz.info48C rfl ψ rfl rfl h2.Q3.in_ rfl c7 fun v' w3 cs c1 c2 c3 c4=>?_);obtain⟨A,U,d8,d1,_,d4⟩:=pV (D:=fun _ _=>False) (D0':=fun b=>v'.ownBlock=some b) (D':=fun _ _=>False) mi c1 c3 a6 (fun g K=>K) (fun _ h=>h.elim) (fun _ h=>h.elim);subst d8;have hA:0<P.Q3.length→∃g cs,A=some ⟨g,0,none⟩∧w2.heap.size≤g∧w3.heap[g]?=some (.cells cs 53 (0,0)):=fun V=>by
  rcases c3.2 with⟨_,e⟩|⟨g,ey,c6,X,e2,e3,_⟩
  ·omega
  ·cases X
   exact⟨g,c6,rfl,e2,e3⟩
 have d2:Kz w w3:=K3 bd c4;have n3:Now (((cU v P).put 24 (stD n)).put 32 (qD A P.Q3.length U)) κ2 120 Tryz.prog {} H0 ⟨(16,.one (.sl 32 32 33))::(15,.one (.sl 2 2 14))::stF,[(0,av),(1,av)],2,[]⟩ (a2.put (some 16) (.slice A P.Q3.length U)) w3:=by
  have n:=(n2.keep c4).lay 32 (qD A P.Q3.length U) δ;exact⟨n.has.put (d:=16) (v := .one (.sl 32 32 33)) ψ,n.mem,n.ctx,n.tb,n.gh⟩
 have bp:κ2 0=Q 0:=p2.upto 0 ψ;have a0:κ2 1=Q 1:=p2.upto 1 ψ;have l0:(Q 0).1<w2.heap.size:=by have:=(n2.mem.get 0 _ rfl).1.1;rwa[bp]at this
 have l1:(Q 1).1<w2.heap.size:=by have:=(n2.mem.get 1 _ rfl).1.1;rwa[a0]at this
 refine vL (CL:={}) 1 1 [0] (fun _=>true) stF stM 2 [] δ n3 (fun o ho=>List.mem_of_mem_drop ho) eU (fun _=>by rw[a0];exact((x1.keep p2.keep fun h=>h).keep c4 fun h=>h).some) (fun q N=>by
  obtain rfl:=List.mem_singleton.1 N;rw[bp,a0];exact⟨Nat.lt_of_lt_of_le l0 c4.size,fun _=>d7⟩) (fun _ _ _ _ _ _ _=>trivial) fun κ4 a4 w4 n4 u4 k4 g4 _ r4 _=>ln (show wpL _ _ _ _ _ from ?_)
 have eq:κ4 0=Q 0:=(u4 0 ψ).trans bp;have cv:κ4 1=Q 1:=(u4 1 ψ).trans a0;rw[cv]at k4;have k4:aD (fun g=>g=(Q 1).1) w3 w4:=k4.mono fun _ _ h=>h.elim (fun h=>h.elim) id
 refine bQ 1 (fun _=>true) ((6,.one (.i .i64 (.c 0)))::stF) stM 2 [] hPp δ n4 fun κ5 a5 w5 n5 p5=>?_
 have cw:κ5 0=Q 0:=(p5.upto 0 ψ).trans eq;have cx:κ5 1=Q 1:=(p5.upto 1 ψ).trans cv;have Z:aD (fun g=>g=(Q 1).1) w3 w5:=k4.trans p5.keep fun _ _ h=>h.elim
 have d3:Kz w w5:=aV d2 Z fun g K=>by rw[show g=(Q 1).1 from K];exact x3
 have i0:StW A P P.Q3 w5:=⟨rfl,fun V=>by
  obtain⟨g,cs,X,e2,e3⟩:=hA V;obtain⟨b,off,q1,_,q2⟩:=d4 V;rw[X]at q1
  cases q1
  have K:=eZ e3;have bz:¬ g=(Q 1).1:=χ
  refine⟨g,X,Nat.lt_of_lt_of_le K Z.size,⟨cs,53,(Z.block g K bz).trans e3⟩,fun i x hx=>?_⟩;have:=q2 i x hx;rw[Nat.zero_add]at this;exact⟨this.1.keep Z K bz,this.2⟩⟩
 obtain⟨T,hT⟩:∃T:Nat→Prop,T=fun b=>0<P.Q3.length∧A=some ⟨b,0,none⟩:=⟨_,rfl⟩
 have af:∀g,T g→w2.heap.size≤g∧g<w5.heap.size:=fun g K=>by
  rw[hT]at K;obtain⟨V,e⟩:=K;obtain⟨g',cs,X,e2,e3⟩:=hA V;rw[e]at X
  cases X
  exact⟨e2,Nat.lt_of_lt_of_le (eZ e3) Z.size⟩
 have n6:=n5.mute ⟨T,fun _ _=>True,fun _ _ _ _ _=>trivial⟩ stM [] δ (fun r l R K=>by
  have K:=(af _ K).1
  rcases List.mem_cons.1 (gV R)with e|e
  ·cases e;rw[cw]at K;omega
  ·cases List.mem_singleton.1 e;rw[cx]at K;omega) (fun g K=>(af g K).2) trivial
 refine bO (Er n6 P.Q3.length 40 6 32 stF (fun _=>true) (fun _:List Region=>{}) (fun _ e w=>StW A P e w) (fun _ _ _ _ hk h=>h.keep hk) P.Q3 hPp δ rfl χ i0 (n6.has.re ⟨rfl,rfl,rfl,rfl,trivial⟩) (fun k e a7 w7 hk n7 di ds=>?_) fun e a9 w9 n9 dk dt=>?_)
 ·have hW:StW A P e w7:=n7.gh
  have O:e.length=P.Q3.length:=by have:=congrArg List.length hW.1;simpa using this
  have V:0<P.Q3.length:=χ
  obtain⟨y,hy⟩:=ge (show k<e.length by omega);obtain⟨g,eA,K,b1,al⟩:=hW.2 V;have bx:T g:=by rw[hT];exact⟨V,eA⟩
  have ez:=(af g bx).1;have n8:=(n7.mute H0 stM [] δ (fun _ _ _ h=>h) (fun _ h=>h.elim) trivial).lay 48 (lj y) δ;have d9:=(al k y hy).1;obtain⟨o1,o2,o3,o4,o5,o6⟩:=(al k y hy).2;obtain⟨κ9,u9,ac,eb⟩:=n8.base g (k*10) (pY 48) ⟨K,id⟩ (fun j u W=>d9 j u W) [(32,10,.x 40,32,2)] δ (fun z hz=>by
   obtain rfl:=List.mem_singleton.1 hz;refine⟨?_,?_,g,0,eA,?_⟩
   ·show(0:Int)≤(k:Int);omega
   ·show(k:Int)<(P.Q3.length:Int);omega
   ·show(g,k*10)=(g,0+(k:Int).toNat*10)
    congr 1
    omega)
  have er:κ9 0=Q 0:=(u9 0 ψ).trans cw;have es:κ9 1=Q 1:=(u9 1 ψ).trans cx;have b0:∀q∈[0,1],(κ9 q).1≠(κ9 2).1:=fun q N=>by
   rw[ac]
   rcases List.mem_cons.1 N with rfl|N
   ·rw[er];show _≠g;omega
   ·obtain rfl:=List.mem_singleton.1 N
    rw[es];show _≠g;omega
  have fin:∀(p':Int) (f':Nat) (p f:IE) {κ':Kap} {C:Ctx} {a':Act} {w':World},Now ((((((cU v P).put 24 (stD n)).put 32 (qD A P.Q3.length U))).put 40 (({}:Sta).cnt k)).put 48 (lj y)) κ' 120 Tryz.prog C H0 ⟨fx 40 6 stF,[(0,av),(1,jP),(2,stC p f)],3,[]⟩ a' w'→ce 3 κ9 κ'→aD (fun b=>b=g) w7 w'→aE (fun _=>true) a7 a'→(∃cs E0,w'.heap[g]?=some (.cells cs E0 (0,0))) →
   (∀j,j<k*10∨k*10+10≤j→w'.cell? ⟨g,j,none⟩=w7.cell? ⟨g,j,none⟩)→p.den ((((((cU v P).put 24 (stD n)).put 32 (qD A P.Q3.length U))).put 40 (({}:Sta).cnt k)).put 48 (lj y))=p'→f.den ((((((cU v P).put 24 (stD n)).put 32 (qD A P.Q3.length U))).put 40 (({}:Sta).cnt k)).put 48 (lj y))=f'→dx p'→f'<lim →
   pL (((cU v P).put 24 (stD n)).put 32 (qD A P.Q3.length U)) κ5 120 40 2 (fx 40 6 stF) (fun _=>true) (fun _:List Region=>{}) T (fun _ e w=>StW A P e w) k a5 w5 a' w':=fun p' f' p f {κ' C a' w'} m uu kk aa rr oo hp hf wp wf=>by
   have k2:κ' 2=(g,k*10):=(uu 2 ψ).trans ac;refine⟨e.set k { y with pos:=p',fill:=f' },κ',hW.set eA V hy rfl ⟨wp,o2,o3,wf,o5,o6⟩ kk.size rr (fun j u hu=>?_) oo,fun r R=>(uu r χ).trans (u9 r R),m.has.on (aS _ 48 _).symm δ,di.trans aa fun _ h=>h,ds.trans (kk.mono fun b _ hb=>by rw[show b=g from hb];exact bx) fun _ _ h=>h⟩;have hc:=(m.mem.get 2 (stC p f) rfl).2;have W:j<10:=(List.getElem?_eq_some_iff.1 hu).1;have X:(stC p f).map (Cl.den ((((((cU v P).put 24 (stD n)).put 32 (qD A P.Q3.length U))).put 40 (({}:Sta).cnt k)).put 48 (lj y)) κ')=Ck.Region.cells { y with pos:=p',fill:=f' }:=by
    rw[←hp];unfold Ck.Region.cells;simp only;rw[←hf];rfl
   rw[←X,List.getElem?_map]at hu;obtain⟨c,d0,rfl⟩:=Option.map_eq_some_iff.1 hu;have:=hc j c d0;rw[k2]at this;exact this
  have ed:=eb.more [] G2 [] hO (fun q N w' e0=>by
   obtain rfl:=List.mem_singleton.1 N;exact(rc n w' hn).mono fun en e5 ⟨X,e2⟩=>⟨X,by rw[e2];exact aD.refl _ _⟩) (fun i x hx=>by cases hx)
  refine am (Cx 14 2 [0,1] 10 ((38,.one (.p 2 0))::(36,.one (.i .i64 stP))::fx 40 6 stF) (fx 40 6 stF) [(0,av),(1,jP),(2,stC stP (.x 51))] hPp δ ed (by rw[ac];exact b1) b0 (fun _ _ _ _ _ _ _=>trivial) fun a8 w8 ee b2 c8 bm b5=>?_);rw[ac]at b2 bm b5;refine bQ 1 (fun _=>true) ((45,.one (.b (.cmp .gtr (.x 51) (.c 0))))::fx 40 6 stF) [(0,av),(1,jP),(2,stC stP (.x 51))] 3 [] hPp δ ee fun bt c5 bs an L=>?_
  have ad:bt 2=(g,k*10):=(L.upto 2 ψ).trans ac;have cf:∃cs E0,bs.heap[g]?=some (.cells cs E0 (0,0)):=by
   obtain⟨cs,E0,hh⟩:=bm;exact⟨cs,E0,(L.keep.block g (aH hh) id).trans hh⟩
  have ca:∀j,j<k*10∨k*10+10≤j→bs.cell? ⟨g,j,none⟩=w7.cell? ⟨g,j,none⟩:=fun j W=>by
   obtain⟨cs,E0,hh⟩:=bm;exact(L.keep.cell (p:=⟨g,j,none⟩) (aH hh) id).trans (b5 j W)
  have K13:aD (fun b=>b=g) w7 bs:=b2.trans (K_T L.keep) fun _ _ h=>h
  have G13:aE (fun _=>true) a7 c5:=c8.trans L.agree fun _ h=>h
  have bb:∀q∈[0,1],(bt q).1≠(bt 2).1:=fun q N=>by
   rw[L.upto 2 ψ,L.upto q (by rcases List.mem_cons.1 N with rfl|N;decide;obtain rfl:=List.mem_singleton.1 N;decide)];exact b0 q N
  have Y:stP.den ((((((cU v P).put 24 (stD n)).put 32 (qD A P.Q3.length U))).put 40 (({}:Sta).cnt k)).put 48 (lj y))=IntKind.i64.wrap (BitVec.ofInt 64 y.pos ^^^ BitVec.ofInt 64 (wi n)).toNat:=rfl;have bf:=xE (BitVec.ofInt 64 y.pos ^^^ BitVec.ofInt 64 (wi n)).toNat
  by_cases hf:0<y.fill
  ·refine cD true an rfl (show decide ((y.fill:Int)>0)=true by simpa using hf) ?_
   refine Cx 13 2 [0,1] 10 ((58,.one (.p 2 7))::(56,.one (.i .u64 stN))::fx 40 6 stF) (fx 40 6 stF) [(0,av),(1,jP),(2,stC stP stN)] hPp δ an (by rw[ad];exact cf) bb (fun _ _ _ _ _ _ _=>trivial) fun ew e6 eg b3 c9 bo cb=>?_
   rw[ad]at b3 bo cb;have bc:stN.den ((((((cU v P).put 24 (stD n)).put 32 (qD A P.Q3.length U))).put 40 (({}:Sta).cnt k)).put 48 (lj y))=((256-y.fill%256:Nat):Int):=by
    show IntKind.u64.wrap (256-(y.fill:Int).tmod 256)=_;rw[Int.tmod_eq_emod_of_nonneg χ,dE χ];omega
   refine bQ 1 (fun _=>true) ((65,.one (.b (.cmp .gtr stN (.c 255))))::fx 40 6 stF) [(0,av),(1,jP),(2,stC stP stN)] 3 [] hPp δ eg fun cy bw a3 E H=>?_
   have bl:cy 2=(g,k*10):=(H.upto 2 ψ).trans ad;have cj:∃cs E0,a3.heap[g]?=some (.cells cs E0 (0,0)):=by
    obtain⟨cs,E0,hh⟩:=bo;exact⟨cs,E0,(H.keep.block g (aH hh) id).trans hh⟩
   have cc:∀j,j<k*10∨k*10+10≤j→a3.cell? ⟨g,j,none⟩=w7.cell? ⟨g,j,none⟩:=fun j W=>by
    obtain⟨cs,E0,hh⟩:=bo;exact(H.keep.cell (p:=⟨g,j,none⟩) (aH hh) id).trans ((cb j W).trans (ca j W))
   have K15:aD (fun b=>b=g) w7 a3:=(K13.trans b3 fun _ _ h=>h).trans (K_T H.keep) fun _ _ h=>h
   have G15:aE (fun _=>true) a7 bw:=(G13.trans c9 fun _ h=>h).trans H.agree fun _ h=>h
   by_cases hz:y.fill%256=0
   ·refine cD true E rfl (show decide (stN.den _>255)=true by rw[bc];exact decide_eq_true χ) ?_
    refine EO (CL:={}) 5 2 [0,1] (fun _=>true) (fx 40 6 stF) [(0,av),(1,jP),(2,stC stP (.c 255))] 3 [] 10 δ δ E eU (fun _=>by rw[bl];exact cj) (fun q N=>?_) (fun _ _ _ _ _ _ _=>trivial) fun eu ex e7 eo cu b4 dc _ cm cd=>ch rfl ?_
    ·refine⟨?_,fun _=>?_⟩
     ·rcases List.mem_cons.1 N with rfl|N
      ·exact(E.mem.get 0 _ rfl).1.1
      ·obtain rfl:=List.mem_singleton.1 N
       exact(E.mem.get 1 _ rfl).1.1
     ·rw[H.upto 2 ψ,H.upto q (by rcases List.mem_cons.1 N with rfl|N;decide;obtain rfl:=List.mem_singleton.1 N;decide)]
      exact bb q N
    ·have ea:eu 2=(g,k*10):=(cu 2 ψ).trans bl
     rw[ea]at b4 cm;rw[bl]at cd;exact fin _ 255 stP (.c 255) eo (fun r R=>(cu r R).trans ((H.upto r R).trans (L.upto r R))) (K15.trans b4 fun _ _ h=>h.elim (fun h=>h.elim) id) (G15.trans dc fun _ h=>h) cm (fun j W=>(cd ψ j W).trans (cc j W)) Y rfl bf ψ
   ·refine cD false E rfl (show decide (stN.den _>255)=false by rw[bc];exact decide_eq_false χ) (fQ (ch rfl ?_))
    exact fin _ (256-y.fill%256) stP stN ⟨E.has.sub (F':=fx 40 6 stF) δ,E.mem,E.ctx,E.tb,E.gh⟩ (fun r R=>(H.upto r R).trans (L.upto r R)) K15 G15 cj cc Y bc bf (by unfold lim;omega)
  ·refine cD false an rfl (show decide ((y.fill:Int)>0)=false by simpa using hf) (fQ ?_)
   refine bQ 1 (fun _=>true) ((65,.one (.b (.cmp .gtr (.x 51) (.c 255))))::fx 40 6 stF) [(0,av),(1,jP),(2,stC stP (.x 51))] 3 [] hPp δ an fun cy bw a3 E H=>?_
   refine cD false E rfl (show decide ((y.fill:Int)>255)=false from decide_eq_false χ) (fQ (ch rfl ?_));obtain⟨cs,E0,hh⟩:=cf;exact fin _ y.fill stP (.x 51) ⟨E.has.sub (F':=fx 40 6 stF) δ,E.mem,E.ctx,E.tb,E.gh⟩ (fun r R=>(H.upto r R).trans (L.upto r R)) (K13.trans (K_T H.keep) fun _ _ h=>h) (G13.trans H.agree fun _ h=>h) ⟨cs,E0,(H.keep.block g (aH hh) id).trans hh⟩ (fun j W=>(H.keep.cell (p:=⟨g,j,none⟩) (aH hh) id).trans (ca j W)) Y rfl bf o4
 ·have hW:StW A P e w9:=n9.gh
  have O:e.length=P.Q3.length:=by have:=congrArg List.length hW.1;simpa using this
  have be:Kz w w9:=aV d3 dt fun g K=>by have:=(af g K).1;have:=bd.size;omega
  have I:=(ax.kept h hB be).mono (B':=w9.heap.size) (by have:=be.size;omega);refine ch rfl ⟨rfl,?_⟩;rw[hJ];refine⟨A,U,e,κ5,hW.1,⟨I.QF,I.Q5,⟨A,U,by rw[O],by rw[O];exact d1,by rw[O];exact a6,fun V=>?_⟩,I.Q4,I.Q8,I.QL,I.QB,I.Q9,I.QD,I.QH,I.QC,I.QG,I.pos,I.name⟩,(n9.downR stF ⟨rfl,rfl,rfl,trivial⟩ δ).mute H0 stM [] δ (fun _ _ _ h=>h) (fun _ h=>h.elim) trivial,dk.defers.trans (p5.agree.defers.trans (g4.defers.trans (p2.agree.defers.trans (p1.agree.defers.trans hd)))),be⟩;obtain⟨g,eA,K,_,al⟩:=hW.2 (by rw[O]at V;exact V);exact⟨g,0,eA,K,fun i x hx=>by rw[Nat.zero_add];exact al i x hx⟩
end Rs
namespace Rs
open Go.RowKit Go.IntWalk Ck
variable {W:World} {b k:Nat}
theorem pD{o:Nat}{cs:Array Value}{t:TypeId}{vs:List Value}(h:W.heap[b]?=some (.cells cs t (0,0)))(e:(cs.toList.drop o).take vs.length=vs):aM W b o vs:=fun j v d=>by
 have g:=(List.getElem?_eq_some_iff.1 d).1;refine i9 h ?_;rw[←e,List.getElem?_take_of_lt g,List.getElem?_drop,Array.getElem?_toList]at d;exact d
theorem uk{α:Type}{R:World→Nat→Nat→α→Prop}{x:α}(g:b<W.heap.size)(h:R W b 0 x):aL W.heap.size k R W (.slice (some ⟨b,0,none⟩) 1 1) [x]:=
 ⟨_,1,rfl,Nat.le_refl 1,(by decide:1≤top),fun _=>⟨b,0,rfl,g,fun i y d=>by
  match i,d with
  | 0,d =>
   obtain rfl:=Option.some.inj d;rw[Nat.zero_mul];exact h⟩⟩
theorem iP{α:Type}{B:Nat}{R:World→Nat→Nat→α→Prop}:aL B k R W (.slice none 0 0) ([]:List α):=⟨none,0,rfl,Nat.le_refl _,(by decide:0≤top),fun h=>absurd h (Nat.lt_irrefl 0)⟩
theorem gX{w:World}{o x:Obj}(h:w.heap[k]?=some x):(w.alloc o).heap[k]?=some x:=(((aD.refl (fun _=>False) w).alloc o).block k (Array.getElem?_eq_some_iff.1 h).1 id).trans h
theorem pH{w:World}{o:Obj}(h:k=w.heap.size):(w.alloc o).heap[k]?=some o:=by subst h;exact heap_alloc_new _ _
theorem lR(w:World)(o:Obj):(w.alloc o).heap.size=w.heap.size+1:=ξ
theorem al5(w:World)(d g h j l:Obj):∃W,W=((((w.alloc d).alloc g).alloc h).alloc j).alloc l∧Kz w W∧W.heap.size=w.heap.size+5∧W.heap[w.heap.size]?=some d∧W.heap[w.heap.size+1]?=some g∧W.heap[w.heap.size+1+1]?=some h∧W.heap[w.heap.size+1+1+1]?=some j∧W.heap[w.heap.size+1+1+1+1]?=some l:=by
 refine⟨_,rfl,(((((aD.refl _ _).alloc _).alloc _).alloc _).alloc _).alloc _,?_,?_,?_,?_,?_,?_⟩
 ·simp only[lR]
 ·exact gX (gX (gX (gX (pH rfl))))
 ·exact gX (gX (gX (pH (by simp only[lR]))))
 ·exact gX (gX (pH (by simp only[lR])))
 ·exact gX (pH (by simp only[lR]))
 ·exact pH (by simp only[lR])
def DE(b:Nat):Sta where
 o j:=match j with|0 =>.slice (some ⟨b+1,0,none⟩) 1 1|1 =>.slice (some ⟨b+1+1,0,none⟩) 2 2|2 =>.slice (some ⟨b+1+1+1,0,none⟩) 1 1|_ =>.slice (some ⟨b+1+1+1+1,0,none⟩) 1 1
def smZ:Cl := .l (.slice none 0 0)
def smC:List Cl:=[.i .i64 (.c 0),.s (.c ⟨#[]⟩),.v 0,smZ,.v 1,smZ,smZ,smZ,smZ,.v 2,smZ,.v 3,smZ,smZ]
def smV(b:Nat):aY:=⟨.slice (some ⟨b+1,0,none⟩) 1 1,.slice none 0 0,.slice (some ⟨b+1+1,0,none⟩) 2 2,.slice none 0 0,.slice none 0 0,.slice none 0 0,.slice none 0 0,.slice (some ⟨b+1+1+1,0,none⟩) 1 1,.slice none 0 0,.slice (some ⟨b+1+1+1+1,0,none⟩) 1 1,.slice none 0 0,.slice none 0 0⟩
theorem qy(x:UInt8):aW ⟨#[x]⟩:=by unfold aW;show(1:Nat)≤_;decide
theorem Ct:dx 0:=⟨ψ,ψ⟩
theorem Ek:0<lim:=ψ
theorem uS:aW ByteArray.empty:=by unfold aW;decide
structure BO (sz:Nat) (W:World) (b:Nat):Prop where
 lt:b+1+1+1+1<W.heap.size
 Qh:aM W (b+1) 0 (Ck.Ram.cells ⟨0,65536,40960⟩)
 regA:aM W (b+1+1) 0 (smA sz).cells
 regB:aM W (b+1+1) 10 smB.cells
 plan:aM W (b+1+1+1) 0 [.int .i64 0,.string ⟨#[112]⟩,.int .u64 1,.slice none 0 0]
 pick:aM W (b+1+1+1+1) 0 (Ck.iE.cells ⟨0,⟨#[112]⟩⟩)
 row:∃cs E0,W.heap[b+1+1]?=some (.cells cs E0 (0,0))
theorem BO.Q3{sz:Nat}{W:World}{b:Nat}(h:BO sz W b)(g:sz<lim):aL W.heap.size 10 eS W (.slice (some ⟨b+1+1,0,none⟩) 2 2) [smA sz,smB]:=by
 have:=h.lt;refine⟨_,2,rfl,Nat.le_refl 2,(by decide:2≤top),fun _=>⟨_,0,rfl,χ,fun i y d=>?_⟩⟩
 match i,d with
 | 0,d =>
  obtain rfl:=Option.some.inj d;exact⟨h.regA,Ct,g,Ek,Ek,qy _,uS⟩
 | 1,d =>
  obtain rfl:=Option.some.inj d;exact⟨h.regB,⟨ψ,ψ⟩,ψ,ψ,ψ,qy _,uS⟩
theorem BO.QT{sz:Nat}(h:BO sz W b)(d:sz<lim):ax W.heap.size W (smV b) (smP sz smQ):=by
 have:=h.lt;exact⟨uk χ ⟨h.Qh,⟨ψ,ψ⟩,ψ,ψ⟩,iP,h.Q3 d,iP,iP,iP,iP,uk χ ⟨_,h.plan,iP,⟨ψ,ψ⟩,ψ,qy _⟩,iP,uk χ ⟨h.pick,⟨ψ,ψ⟩,qy _⟩,iP,iP,Ct,uS⟩
theorem xY(w:World):Calls Tryz.prog 17 #[] w fun e w'=>∃b,e=.returned (.agg (aY.cells (smV b) (smP 8192 smQ)).toArray)∧w.heap.size≤b∧Kz w w'∧BO 8192 w' b:=by
 go_enter Tryz.func17,Tryz.ntmps17
 go_wp2
 generalize hc0 : #[Value.int IntKind.i64 0,Value.string { data := #[] },Value.slice (some { block:=w.heap.size+1,off:=0 }) 1 1,Value.slice none 0 0,Value.slice (some { block:=w.heap.size+1+1,off:=0 }) 2 2,Value.slice none 0 0,Value.slice none 0 0,Value.slice none 0 0,Value.slice none 0 0,Value.slice (some { block:=w.heap.size+1+1+1,off:=0 }) 1 1,Value.slice none 0 0,Value.slice (some { block:=w.heap.size+1+1+1+1,off:=0 }) 1 1,Value.slice none 0 0,Value.slice none 0 0]=c0
 generalize hc1 : #[Value.int IntKind.i64 0,Value.int IntKind.u64 65536,Value.int IntKind.u64 40960]=c1
 generalize hc2 : #[Value.int IntKind.i64 0,Value.string { data := #[97] },Value.int IntKind.u64 8192,Value.bool false,Value.int IntKind.u64 0,Value.bool false,Value.bool false,Value.int IntKind.u64 0,Value.bool false,Value.string { data := #[] },Value.int IntKind.i64 0,Value.string { data := #[98] },Value.int IntKind.u64 12288,Value.bool true,Value.int IntKind.u64 65536,Value.bool false,Value.bool false,Value.int IntKind.u64 0,Value.bool false,Value.string { data := #[] }]=c2
 generalize hc3 : #[Value.int IntKind.i64 0,Value.string { data := #[112] },Value.int IntKind.u64 1,Value.slice none 0 0]=c3
 generalize hc4 : #[Value.int IntKind.i64 0,Value.string { data := #[112] }]=c4
 obtain⟨W,q,hk,H,x,y,h,B,C⟩:=al5 w (.cells c0 33) (.cells c1 91) (.cells c2 53) (.cells c3 68) (.cells c4 47);rw[←q];clear q;refine pX (S:=DE w.heap.size) (κ:=fun _=>(w.heap.size,0)) (N:=11) (F:=[(0,.one (.p 0 0))]) (M:=[(0,smC)]) (v := .ag smC) (t:=0) (r:=0) (E:=33) rfl ⟨rfl,fun t u g=>?_⟩ rfl δ ?_ rfl ?_
 ·rw[bk]at g
  split at g
  ·rename_i e;subst e;obtain rfl:=Option.some.inj g;rfl
  ·cases g
 ·intro r l d
  rw[cL]at d;split at d
  ·rename_i e;subst e;obtain rfl:=Option.some.inj d
   intro j c D;refine i9 x ?_;subst hc0;have:(smC.map (Cl.den (DE w.heap.size) fun _=>(w.heap.size,0)))[j]?=some (c.den (DE w.heap.size) fun _=>(w.heap.size,0)):=by rw[List.getElem?_map,D];rfl
   show _[0+j]?=_;rw[Nat.zero_add,←Array.getElem?_toList];exact this
  ·cases d
 ·refine⟨w.heap.size,rfl,Nat.le_refl _,hk,?_⟩
  subst hc1 hc2 hc3 hc4;exact⟨χ,pD y rfl,pD h rfl,pD h rfl,pD B rfl,pD C rfl,_,_,h⟩
end Rs
namespace Ck
variable {sz:Nat} {st:List iE}
theorem DF(q:Nat):gT (smP sz st) q↔65536≤q∧q<106496:=by
 unfold gT rng;constructor
 ·rintro⟨r,h,d,g,j⟩
  obtain rfl:=List.mem_singleton.1 h;exact⟨d,g⟩
 ·exact fun⟨d,g⟩=>⟨_,List.mem_singleton.2 rfl,d,g,χ⟩
theorem nL(q:Nat):cM (smP sz st) q↔77824≤q∧q<106496:=by
 unfold cM;rw[DF];constructor
 ·rintro⟨⟨g,h⟩,j⟩
  have:=j smB (List.mem_cons_of_mem _ (List.mem_singleton.2 rfl)) rfl;unfold rng at this;have:¬ (65536≤q∧q<65536+12288∧q<4294967296):=this;omega
 ·rintro⟨g,h⟩
  refine⟨χ,fun x d l=>?_⟩
  rcases List.mem_cons.1 d with rfl|d
  ·cases l
  ·obtain rfl:=List.mem_singleton.1 d
   unfold rng;show ¬ (65536≤q∧q<65536+12288∧_);omega
theorem DG:dU (smP 8192 st) 1=(some ⟨[77824,65536],86016,1⟩, -1,0):=by
 have j:fit (cM (smP 8192 st)) 8192 4096=some 77824:=jX.2 ⟨ψ,⟨⟨19,rfl⟩,fun q g d=>(nL q).2 χ⟩,fun q u ⟨_,h⟩=>by
  have:=(nL q).1 (h q (Nat.le_refl _) χ);omega⟩
 have l:fit (off (cM (smP 8192 st)) 77824 8192) (1*4096) 4096=some 86016:=jX.2 ⟨ψ,⟨⟨21,rfl⟩,fun q g d=>⟨(nL q).2 χ,by unfold rng;omega⟩⟩,fun q u ⟨_,h⟩=>by
  have h:=h q (Nat.le_refl _) χ;have g:=(nL q).1 h.1;have d:=h.2;unfold rng at d;omega⟩
 have h:gH (cM (smP 8192 st)) [] (smP 8192 st).Q3=.inr ([77824,65536],off (cM (smP 8192 st)) 77824 8192):=by
  show gH _ [] [smA 8192,smB]=_;rw[gH,if_neg ψ];show(match fit (cM (smP 8192 st)) 8192 4096 with|some p=>gH (off (cM (smP 8192 st)) p 8192) ([]++[p]) [smB]|none =>.inl 0)=_;rw[j];rfl
 unfold dU;rw[h];show(match fit (off (cM (smP 8192 st)) 77824 8192) (1*4096) 4096 with|none=>((none:Option Lay),(-1:Int),(110:Int))|some p=>(some (⟨[77824,65536],p,1⟩:Lay), -1,0))=_;rw[l]
theorem uO(h:li (smP sz st) (smA sz)=[]):fg (smP sz st)=[]:=by
 have j:fO [⟨0,65536,40960⟩] 65536 (dM 65536 12288)=true:=by
  unfold fO;simp only[decide_eq_true_eq];intro p g d;exact⟨_,List.mem_singleton.2 rfl,g,Nat.le_trans d ψ⟩
 have l:kV (smP sz st) smB=[]:=by
  unfold kV;rw[if_pos (show smB.fixed=true from rfl)];show say (_||(_&&fO [⟨0,65536,40960⟩] 65536 (dM 65536 12288))) _ _=[];rw[j];rfl
 have d:li (smP sz st) smB=[]:=by
  unfold li;rw[l];rfl
 show(li (smP sz st) (smA sz)++(li (smP sz st) smB++[]))++db 3 (smP sz st).fixed=[];rw[h,d];rfl
theorem zP:mw (eN jd) ae (smP 8192 smQ):=by
 intro g d;simp only[da,List.mem_cons,List.mem_nil_iff,or_false]at d
 rcases d with rfl|rfl|rfl|rfl|rfl|rfl|rfl|rfl
 ·show kN (eN jd) (smP 8192 smQ)=[];kernel_rfl
 ·show gP (smP 8192 smQ)=[];kernel_rfl
 ·show vh (smP 8192 smQ)=[];kernel_rfl
 ·exact uO δ
 ·show l8 (smP 8192 smQ)=[];kernel_rfl
 ·show tv (smP 8192 smQ)=[];kernel_rfl
 ·show kM (fun M y=>(ae M y).2) (smP 8192 smQ)=[];kernel_rfl
 ·show mH ae (smP 8192 smQ)=[];kernel_rfl
theorem zQ(sz:Nat):pages ae (smP sz st)=1:=δ
end Ck
namespace Rs
open Go.RowKit Ck
def stH:Fr:=[(7,.one (.p 2 0)),(5,.one (.p 1 0)),(2,.one (.p 0 0))]
theorem xV{B:Nat}{w:World}{v:aY}{P:aF}(h:ax B w v P)(af:io B w)(hB:B≤w.heap.size){n:Int}(hn:dx n):
 Calls Tryz.prog 4 #[.agg (v.cells P).toArray,.int .i64 n] w fun e w'=>e=.returned (.bool true)∧Kz w w':=by
 obtain⟨R,hR⟩:∃R:Ending→World→Prop,R=fun e w'=>e=.returned (.bool true)∧Kz w w':=⟨_,rfl⟩
 rw[←hR];refine fnE ((cU v P).put 24 (stD n)) (fun _=>(0,0)) [.ag av,.one (.i .i64 (.x 24))] Tryz.func4 Tryz.ntmps4 rfl (by rw[List.map_cons,cX h (aS _ 24 _)];rfl) ψ H0 (fun _ h=>h.elim) trivial fun a hd hh=>?_
 refine Cc 5 (StJ n v P w) (uL h hB hn hd hh) fun a1 w1 hj=>?_
 obtain⟨A,cp,e,κ1,hb,hQ,n1,b3,ac⟩:=hj;obtain⟨Q,C⟩:∃Q:aF,Q={ P with Q3:=e }:=⟨_,rfl⟩;rw[←C]at hQ;obtain⟨O,bf⟩:∃b:Bool,(b=true↔mw (eN jd) ae P):=by
  classical exact⟨decide (mw (eN jd) ae P),decide_eq_true_iff⟩
 obtain⟨a5,bl⟩:∃b:Bool,(b=true↔mw (eN jd) ae Q):=by
  classical exact⟨decide (mw (eN jd) ae Q),decide_eq_true_iff⟩
 have b1:B≤w1.heap.size:=by have:=ac.size;omega
 -- Lay(small())
 refine wH 1 (sg 0 17 [] (.ag (Bv 40)) 40 (fun d w'=>∃b,d=cU (smV b) (smP 8192 smQ)∧ax w'.heap.size w' (smV b) (smP 8192 smQ)∧w1.heap.size≤w'.heap.size) (fun _=>true) ((72,.ag (Bv 40))::stF) stM 2 δ n1 (fun w' j=>(xY w').mono fun en W ⟨b,L,_,K,e3⟩=>⟨_,⟨b,rfl,e3.QT ψ,by have:=j.size;have:=K.size;omega⟩,by rw[L,sE (e3.QT ψ)],K⟩) fun κ2 a2 w2 d c5 ⟨b,b4,cj,c7⟩ an n2 p2=>?_);subst b4;have aa:=ax.kept cj (Nat.le_refl _) an;have bd:=K3 ac p2.keep;refine AT 1 (sg 0 16 [.ag (Bv 40)] (.one (.v 72)) 72 (fun d w'=>∃x,d=lrD x∧LyR (smP 8192 smQ) true 1 x w') (fun _=>true) ((73,.one (.v 72))::stF) stM 2 δ n2 (fun w' j=>?_) fun κ3 a3 w3 d di ⟨x1,b5,al⟩ c9 n3 p3=>?_)
 ·rw[List.map_cons,sE aa]
  have D:=K3 bd j;have:=rI (ax.kept aa an.size j) (io.kept af hB D (B':=c5.heap.size) χ) (by have:=an.size;have:=j.size;omega) (ok:=true) ⟨fun _=>zP,fun _=>rfl⟩;rw[zQ]at this;exact this.mono fun en W ⟨x,L,K,e3,_⟩=>⟨_,⟨x,rfl,K⟩,L,e3⟩
 subst b5;unfold LyR at al;rw[DG]at al;obtain⟨_,_,bs,bp,bt,_⟩:=al;refine AU (CL:=CF 72 71 74 75 76) (fun _=>true) ((8,.one (.i .i64 (.x 74)))::(9,.one (.i .i64 (.x 75)))::stH) [(0,av),(1,jP),(2,lrL 72)] 3 [] δ n3 (fun o ho=>List.mem_of_mem_drop (List.mem_of_mem_drop ho)) (rH x1 rfl rfl rfl rfl rfl rfl rfl) fun κ4 a4 w4 n4 p4=>ln (show wpL _ _ _ _ _ from ?_)
 obtain⟨z1,z2,z3⟩:=p4.new.row n4.mem (r:=2) rfl ψ ψ;refine bQ 2 (fun _=>true) stH [(0,av),(1,jP),(2,lrL 72)] 3 [] hPp δ (n4.more [(.cmp .neq (.x 75) (.c 0),false),(.cmp .neq (.x 74) (.c (-1)),false),(.cmp .neq (.ln 72) (.c 2),false)] [] [] (fac (by show(x1.e !=0)=false;rw[bp];rfl) (fac (by show(x1.k != -1)=false;rw[bs];rfl) (fac (by show((x1.n:Int)!=2)=false;rw[bt];rfl) hO))) (fun y hy=>by cases hy) (fun i x hx=>by cases hx)) fun κ6 a6 w6 n6 p6=>?_
 have ad:Kz w w6:=K3 (K3 (K3 bd p3.keep) p4.keep) p6.keep;have cx:∀q,q<2→κ6 q=κ1 q:=fun q N=>(p6.upto q (by show q<3;omega)).trans ((p4.upto q N).trans ((p3.upto q N).trans (p2.upto q N)))
 have bb:κ6 2=κ4 2:=p6.upto 2 ψ;have zr:Row w6 (κ4 2).1 _:=z1.keep p6.keep fun h=>h
 have l1:∀q,q<2→(κ1 q).1<w1.heap.size:=fun q N=>by
  match q,N with
  | 0,_=>exact(n1.mem.get 0 _ rfl).1.1
  | 1,_=>exact(n1.mem.get 1 _ rfl).1.1
 have z9:w1.heap.size≤(κ4 2).1:=by have:=p2.keep.size;have:=p3.keep.size;omega
 -- Lay(p)
 refine wH 2 (sg 1 16 [.ag av] (.one (.v 80)) 80 (fun d w'=>∃x,d=lrD x∧LyR P O (pages ae P) x w'∧∀g o,x.A=some ⟨g,o,none⟩→0<x.n→w6.heap.size≤g) (fun _=>true) ((91,.one (.v 80))::stH) [(0,av),(1,jP),(2,lrL 72)] 3 δ n6.bare (fun w' j=>?_) fun κ7 a7 w7 d dk ⟨J,ca,u,cc⟩ cs n7 V=>?_)
 ·rw[List.map_cons,cX h ((((lS ψ).trans (lS ψ)).trans (lS ψ)).trans (lS ψ))]
  have D:=K3 ad j;exact(rI (ax.kept h hB D) (io.kept af hB D (Nat.le_refl _)) (by have:=D.size;omega) bf).mono fun en W ⟨x,L,K,e3,e4⟩=>⟨_,⟨x,rfl,K,fun g o q1 q2=>by have:=e4 g o q1 q2;have:=j.size;omega⟩,L,e3⟩
 subst ca;have u:=u.keep cs;refine vL (CL:=CF 80 89 92 93 94) 4 2 [0,1] (fun _=>true) ((8,.one (.i .i64 (.x 82)))::(9,.one (.i .i64 (.x 83)))::stH) [(0,av),(1,jP),(2,lrL 80)] 3 [] δ n7 (fun o ho=>List.mem_of_mem_drop ho) (rH J rfl rfl rfl rfl rfl rfl rfl) (fun _=>by rw[V.upto 2 ψ,bb];exact(zr.keep V.keep fun h=>h).some) (fun q N=>?_) (fun _ _ _ _ _ _ _=>trivial) fun κ8 a8 w8 n8 u8 k8 g8 _ r8 _=>ln (show wpL _ _ _ _ _ from ?_)
 ·have bm:q<2:=by
   rcases List.mem_cons.1 N with rfl|N
   ·decide
   ·obtain rfl:=List.mem_singleton.1 N;decide
  rw[V.upto 2 ψ,bb,V.upto q (by show q<3;omega),cx q bm];have:=l1 q bm;have:=ad.size;refine⟨?_,fun _=>χ⟩;have:=p2.keep.size;have:=p3.keep.size;have:=p4.keep.size;have:=p6.keep.size;have:=V.keep.size;omega
 have cy:κ8 2=κ4 2:=(u8 2 ψ).trans ((V.upto 2 ψ).trans bb);rw[cy]at k8;have k8:aD (fun g=>g=(κ4 2).1) w7 w8:=k8.mono fun _ _ h=>h.elim (fun h=>h.elim) id
 have cm:∀{g},g=(κ4 2).1→w.heap.size≤g:=fun{g} hg=>by have:=ac.size;omega
 have be:Kz w w8:=aV (K3 ad V.keep) k8 fun g hg=>cm hg
 have bc:Kz w1 w8:=aV (K3 (K3 (K3 (K3 p2.keep p3.keep) p4.keep) p6.keep) V.keep) k8 fun g hg=>by rw[show g=(κ4 2).1 from hg];exact z9
 have u:LyR P O (pages ae P) J w8:=u.other k8 fun g o q1 q2 hg=>by
  have:=cc g o q1 q2;have:=zr.lt;have hg:g=(κ4 2).1:=hg;omega
 -- Lay(q)
 refine wH 2 (sg 1 16 [.ag jP] (.one (.v 88)) 88 (fun d w'=>∃x,d=lrD x∧LyR Q a5 (pages ae Q) x w') (fun _=>true) ((97,.one (.v 88))::(8,.one (.i .i64 (.x 82)))::(9,.one (.i .i64 (.x 83)))::stH) [(0,av),(1,jP),(2,lrL 80)] 3 δ n8 (fun w' j=>?_) fun κ9 a9 w9 d ds ⟨X,cb,I⟩ cu n9 p9=>?_)
 ·rw[List.map_cons,zw (Q:=Q) h (((((lS ψ).trans (lS ψ)).trans (lS ψ)).trans (lS ψ)).trans (lS ψ)) rfl rfl rfl (by rw[C]) (by rw[C])]
  have D:=K3 be j;have bo:=K3 bc j;exact(rI (ax.kept hQ (Nat.le_refl _) bo) (io.kept af hB D b1) (by have:=bo.size;omega) bl).mono fun en W ⟨x,L,K,e3,_⟩=>⟨_,⟨x,rfl,K⟩,L,e3⟩
 subst cb;refine AU (CL:=CF 88 95 98 99 100) (fun _=>true) [(7,.one (.p 2 0)),(8,.one (.i .i64 (.x 82))),(9,.one (.i .i64 (.x 83))),(10,.one (.p 3 0)),(11,.one (.i .i64 (.x 90))),(12,.one (.i .i64 (.x 91)))] [(2,lrL 80),(3,lrL 88)] 4 [] δ n9 (fun o ho=>List.mem_of_mem_drop ho) (rH X rfl rfl rfl rfl rfl rfl rfl) fun dt bz c3 bw U=>ln (show wpL _ _ _ _ _ from ?_)
 have Z:Kz w c3:=K3 (K3 be p9.keep) U.keep;have Y:bz.defers=[]:=U.agree.defers.trans (p9.agree.defers.trans (g8.defers.trans (V.agree.defers.trans (p6.agree.defers.trans (p4.agree.defers.trans (p3.agree.defers.trans (p2.agree.defers.trans b3)))))));have u:=(u.keep p9.keep).keep U.keep;have I:=(I.keep cu).keep U.keep;have key:(∃FA:List (BE×Bool),(FA=[(.cmp .eql (.x 83) (.c 1),true)]∨FA=[(.cmp .eql (.x 83) (.c 1),false),(.cmp .eql (.x 91) (.c 1),true)])∧∀y∈FA,y.1.den (((((((cU v P).put 24 (stD n)).put 32 (qD A P.Q3.length cp)).put 40 (cU (smV b) (smP 8192 smQ))).put 72 (lrD x1)).put 80 (lrD J)).put 88 (lrD X))=y.2)∨(O=true∧a5=true∧(J.e==1)=false):=by
  cases O with
  | false =>
   refine .inl ⟨_,.inl rfl,fa1 ?_⟩;show(J.e==1)=true;rw[show J=se (-1) 1 from u];rfl
  | true =>
   have H:(J.e==1)=false:=by simpa using(u.two u rfl).2.2.2.2.2
   cases a5 with
   | false =>
    refine .inl ⟨_,.inr rfl,vV H ?_⟩;show(X.e==1)=true;rw[show X=se (-1) 1 from I];rfl
   | true=>exact .inr ⟨rfl,rfl,H⟩
 rcases key with⟨FA,hc,hF⟩|⟨rfl,rfl,H⟩
 ·refine eL 2 (fun _=>true) [(4,.one (.b (.c true)))] [] 4 [] hPp (by rcases hc with rfl|rfl<;>kernel_rfl) (bw.more FA [] [] hF (fun y hy=>by cases hy) (fun i x hx=>by cases hx)) fun c6 b0 c4 a0 E=>?_
  exact gS 4 rfl a0.has rfl (E.agree.defers.trans Y) (by rw[hR];exact⟨rfl,K3 Z E.keep⟩)
 ·have cf:pages ae P=pages ae Q:=ue (by rw[C]) (by rw[C];exact hb.symm)
  have cd:dU P (pages ae P)=dU Q (pages ae P):=AX (by rw[C]) (by rw[C];exact Ac hb.symm) _;rw[←cf]at I;obtain⟨⟨l,l1,l2⟩,q1,q2,q3,q4,_⟩:=u.two I cd;have b2:(X.e==1)=false:=by rw[←q4];exact H
  refine bQ 2 (fun _=>true) [(7,.one (.p 2 0)),(8,.one (.i .i64 (.x 82))),(9,.one (.i .i64 (.x 83))),(10,.one (.p 3 0)),(11,.one (.i .i64 (.x 90))),(12,.one (.i .i64 (.x 91)))] [(2,lrL 80),(3,lrL 88)] 4 [] hPp δ (bw.more [(.cmp .eql (.x 83) (.c 1),false),(.cmp .eql (.x 91) (.c 1),false)] [] [] (vV H b2) (fun y hy=>by cases hy) (fun i x hx=>by cases hx)) fun c6 b0 c4 a0 E=>?_
  have cv:=a0.more [(.cmp .eql (.x 83) (.x 91),true),(.cmp .eql (.x 82) (.x 90),true)] [(18,[.ag (lrL 80),.ag (lrL 88)],.one (.b (.c true)))] [] (vV (by show(J.e==X.e)=true;rw[q4];simp) (by show(J.k==X.k)=true;rw[q3];simp)) (fun y hy w' j=>by
   obtain rfl:=List.mem_singleton.1 hy;refine(xd ((l1.keep E.keep).keep j) ((l2.keep E.keep).keep j) (i1:=J.im) (i2:=X.im) (g1:=J.pg) (g2:=X.pg)).mono fun en W ⟨L,K⟩=>⟨?_,K⟩
   rw[L,decide_eq_true ⟨q1,q2,rfl⟩];rfl) (fun i x hx=>by cases hx)
  refine eL 2 (fun _=>true) [(4,.one (.b (.c true)))] [] 4 [] hPp δ cv fun d0 c8 dc cw bx=>?_
  exact gS 4 rfl cw.has rfl (bx.agree.defers.trans (E.agree.defers.trans Y)) (by rw[hR];exact⟨rfl,K3 (K3 Z E.keep) bx.keep⟩)
end Rs
section
open Go.ChangeShapes Go.WideShapes Go.ChangeAt Go.RowKit Go.Deep
namespace bulks
theorem part_le{H:Type}{d:DataW H}{l:List (DataW H)}(h:d∈l):Rows.uptoBulk d≤Rows.uptoBulkAll l:=by
 induction l with
 | nil=>cases h
 | cons x r ih =>
  simp only[Rows.uptoBulkAll]
  rcases List.mem_cons.1 h with e|e
  ·subst e;omega
  ·have:=ih e;omega
theorem DW{H:Type}(d:DataW H):1≤Rows.uptoBulk d:=by
 cases d with
 | lit l=>cases l<;>simp[Rows.uptoBulk]
 | nil=>simp[Rows.uptoBulk]
 | ptr d=>simp[Rows.uptoBulk]
 | slice elems spare=>simp[Rows.uptoBulk]
 | agg parts=>simp[Rows.uptoBulk]
 | iface t d=>simp[Rows.uptoBulk]
 | map entries=>simp[Rows.uptoBulk]
 | held h=>simp[Rows.uptoBulk]
theorem length_le{H:Type}(l:List (DataW H)):l.length≤Rows.uptoBulkAll l:=by
 induction l with
 | nil=>simp[Rows.uptoBulkAll]
 | cons x r ih=>have:=DW x;simp only[Rows.uptoBulkAll,List.length_cons];omega
theorem slice_elems{H:Type}(d spare:List (DataW H)):Rows.uptoBulkAll d+1≤Rows.uptoBulk (.slice d spare):=by
 simp only[Rows.uptoBulk];omega
theorem agg_parts{H:Type}(parts:List (DataW H)):Rows.uptoBulkAll parts≤Rows.uptoBulk (.agg parts):=by
 simp only[Rows.uptoBulk];omega
theorem short{H:Type}{s:ByteArray}{p:List MemPlace}{y:DataW H×List MemPlace}(h:y=(.lit (.string s.data.toList),p))(d:Rows.uptoBulk y.1≤1048576):aW s:=by
 subst h;simp only[Rows.uptoBulk]at d;have e:s.data.toList.length=s.size:=Array.length_toList;unfold aW;omega
end bulks
def ju(w:World)(b o i:Nat)(vs:List Value):Prop:=∀j v,vs[j]?=some v→w.cell? ⟨b,o+(i+j),none⟩=some v
theorem cG{w:World}{b o i:Nat}:ju w b o i []:=fun j v h=>by simp at h
theorem aI{w:World}{b o i:Nat}{v:Value}{vs:List Value}(h:w.cell? ⟨b,o+i,none⟩=some v)(t:ju w b o (i+1) vs):ju w b o i (v::vs):=fun j u d=>by
 cases j with
 | zero=>simp at d;subst d;exact h
 | succ j=>have:=t j u (by simpa using d);rw[show i+1+j=i+(j+1) by omega]at this;exact this
theorem cZ{w:World}{b o:Nat}{vs:List Value}(h:ju w b o 0 vs):aM w b o vs:=fun j v d=>by have:=h j v d;rw[Nat.zero_add]at this;exact this
section
variable {H:Type} {enc:TypeId×Value→H} {P:Program} {w:World} {base:Nat} {spare:Nat→Bool} {held:Bool}
theorem qW{e:TypeId}{g:Array Field}{n k:Nat}{cs:List Value}{x:DataW H×List MemPlace}(I:P.underlying e=some (.struct g))
 (l:oneCellFields P g=true)(hk:k=g.size)(E:cs.length=k)(h:DataW.trod enc P w base spare held n e cs=some x):
 ∃C,∀(j:Nat) (f:Field),g[j]?=some f→∃(v:Value) (y:DataW H×List MemPlace),cs[j]?=some v∧Rows.uptoBulk y.1≤Rows.uptoBulk x.1∧DataW.trod enc P w base spare held C f.type [v]=some y:=by
 subst hk;obtain⟨ys,C,L,Q,D,R,J⟩:=DataW.trod_struct I h;refine⟨C,fun j f u=>?_⟩;obtain⟨N,hk⟩:=hone_of l j f u;have K:j<g.size:=(Array.getElem?_eq_some_iff.1 u).1;have O:cs[j]?=some (cs[j]' χ):=Ez χ;have q:=J j f u;rw[N,hk]at q;have d:(cs.drop j).take 1=[cs[j]' χ]:=by
  rw[List.drop_eq_getElem_cons χ];rfl
 rw[d]at q;have B:ys[j]?=some (ys[j]' χ):=Ez χ;refine⟨_,_,O,?_,q.trans B⟩;rw[Q];exact Nat.le_trans (bulks.part_le (List.mem_map.2 ⟨_,List.getElem_mem _,rfl⟩)) (bulks.agg_parts _)
theorem bF{e:TypeId}{g:Array Field}{n k b o:Nat}{cs:List Value}{x:DataW H×List MemPlace}(K:P.underlying e=some (.struct g))
 (l:oneCellFields P g=true)(hk:k=g.size)(J:w.cells? base ⟨b,o,none⟩ k=some cs)(h:DataW.trod enc P w base spare held n e cs=some x):
 ∃B,∀(j:Nat) (f:Field),g[j]?=some f→∃(v:Value) (y:DataW H×List MemPlace),w.cell? ⟨b,o+j,none⟩=some v∧Rows.uptoBulk y.1≤Rows.uptoBulk x.1∧DataW.trod enc P w base spare held B f.type [v]=some y:=by
 obtain⟨_,u,q⟩:=World.cells?_some J;obtain⟨B,L⟩:=qW K l hk u h;refine⟨B,fun j f C=>?_⟩;obtain⟨v,y,D,E,I⟩:=L j f C;have N:j<g.size:=(Array.getElem?_eq_some_iff.1 C).1;have d:=q j χ;rw[pJ]at d;exact⟨v,y,d.trans D,E,I⟩
theorem bJ{α:Type}{R:World→Nat→Nat→α→Prop}{t e:TypeId}{k u:Nat}{v:Value}{y:DataW H×List MemPlace}(ht:P.underlying t=some (.slice e))(W:P.cellsOf e=k)(L:0<k)(N:∀b,spare b=true)
 (J:∀(b o m:Nat) (cs:List Value) (z:DataW H×List MemPlace),Rows.uptoBulk z.1≤1048576→w.cells? base ⟨b,o,none⟩ k=some cs→DataW.trod enc P w base spare held m e cs=some z→∃s:α,R w b o s)
 (X:Rows.uptoBulk y.1≤1048576)(h:DataW.trod enc P w base spare held u t [v]=some y):∃xs:List α,aL w.heap.size k R w v xs:=by
 rcases open_slice ht h with⟨g,hx⟩|⟨a,len,q,m,n1,D,Pl,g,af,hl,hm,E,hx,hi⟩
 ·simp at g
  subst g;exact⟨[],none,0,rfl,Nat.le_refl _,ξ,fun h=>by simp at h⟩
 ·simp at g
  subst g;rw[N]at E;simp only[if_true]at E;have hB:Rows.uptoBulkAll ((List.range len).map D)+1≤1048576:=Nat.le_trans (bulks.slice_elems _ _) (by rw[hx]at X;exact X);have aa:len≤1048576:=by have:=bulks.length_le ((List.range len).map D);simp at this;omega
  rcases Nat.eq_zero_or_pos len with V|V
  ·subst V
   exact⟨[],_,q,rfl,hl,ξ,fun h=>by simp at h⟩
  ·obtain⟨ad,C,_⟩:=hi 0 χ
   rw[W]at C;obtain⟨_,Z,B⟩:=World.cells?_some C;have j:=B 0 L;rw[Ez χ]at j;simp only[Nat.zero_mul]at j;rw[Go.Deep.add_add]at j;obtain⟨b,off,rfl,I,x⟩:=xW j;obtain⟨xs,U,hq⟩:=CG (Q:=fun i (s:α)=>R w b (off+i*k) s) len (fun i K=>by
    obtain⟨ac,Y,O⟩:=hi i χ;rw[W,x]at Y;refine J _ _ _ _ _ ?_ Y O;have:=bulks.part_le (d:=D i) (l:=(List.range len).map D) (List.mem_map.2 ⟨i,List.mem_range.2 K,rfl⟩);show Rows.uptoBulk (D i)≤_;omega)
   exact⟨xs,some ⟨b,off,none⟩,q,by rw[U],χ,by unfold top;omega,fun _=>⟨b,off,rfl,I,hq⟩⟩
end
section
variable {H:Type} {enc:TypeId×Value→H} {W:World} {base:Nat}
theorem zzA{α:Type}{a b:α}{s t:List α}(h:a::s=b::t):a=b:=List.head_eq_of_cons_eq h
variable{f:Nat}{c:List Value}{x:DataW H×List MemPlace}
def zzB:=@DataW.trod_int H enc Tryz.prog W base (fun _=>true) true f 3 c x _ Tryz.underlying3
def zzC:=@DataW.trod_int H enc Tryz.prog W base (fun _=>true) true f 41 c x _ Tryz.underlying41
def zzD:=@DataW.trod_string H enc Tryz.prog W base (fun _=>true) true f 9 c x Tryz.underlying9
def zzE:=@DataW.trod_bool H enc Tryz.prog W base (fun _=>true) true f 4 c x Tryz.underlying4
theorem zq{b o m:Nat}{cs:List Value}{x:DataW H×List MemPlace}(K:Rows.uptoBulk x.1≤1048576)(C:W.cells? base ⟨b,o,none⟩ 3=some cs)
 (h:DataW.trod enc Tryz.prog W base (fun _=>true) true m 91 cs=some x):∃s:Ck.Ram,tj W b o s:=by
 obtain⟨L,d⟩:=bF Tryz.underlying91 δ δ C h;obtain⟨R,Y,c0,N,D⟩:=d 0 _ rfl;obtain⟨n0,w,U,J⟩:=zzB D;obtain rfl:=zzA w;obtain⟨v1,Z,c1,O,E⟩:=d 1 _ rfl;obtain⟨l,y,V,u⟩:=zzC E;obtain rfl:=zzA y;obtain⟨g,rfl⟩:∃m:Nat,l=(m:Int):=⟨l.toNat,by have:=(aQ u).1;omega⟩;obtain⟨v2,y2,c2,Q,I⟩:=d 2 _ rfl;obtain⟨q,B,X,v⟩:=zzC I;obtain rfl:=zzA B;obtain⟨j,rfl⟩:∃m:Nat,q=(m:Int):=⟨q.toNat,by have:=(aQ v).1;omega⟩;exact⟨⟨n0,g,j⟩,cZ (aI c0 (aI c1 (aI c2 cG))),az J,(show g<lim by have:=(aQ u).2;unfold lim;omega),(show j<lim by have:=(aQ v).2;unfold lim;omega)⟩
theorem sZ{b o m:Nat}{cs:List Value}{x:DataW H×List MemPlace}(B:Rows.uptoBulk x.1≤1048576)(C:W.cells? base ⟨b,o,none⟩ 5=some cs)
 (h:DataW.trod enc Tryz.prog W base (fun _=>true) true m 93 cs=some x):∃s:Ck.Map,dO W b o s:=by
 obtain⟨V,d⟩:=bF Tryz.underlying93 δ δ C h;obtain⟨v0,y0,c0,X,J⟩:=d 0 _ rfl;obtain⟨n0,v,x0,R⟩:=zzB J;obtain rfl:=zzA v;obtain⟨v1,y1,c1,Q,K⟩:=d 1 _ rfl;obtain⟨D,w,U,w1⟩:=zzD K;obtain rfl:=zzA w;obtain⟨v2,y2,c2,Y,L⟩:=d 2 _ rfl;obtain⟨j,y,x2,l⟩:=zzC L;obtain rfl:=zzA y;obtain⟨g,rfl⟩:∃m:Nat,j=(m:Int):=⟨j.toNat,by have:=(aQ l).1;omega⟩;obtain⟨v3,y3,q,Z,N⟩:=d 3 _ rfl;obtain⟨E,e3,x3⟩:=zzE N;obtain rfl:=zzA e3;obtain⟨v4,y4,u,u4,O⟩:=d 4 _ rfl;obtain⟨I,e4,x4⟩:=zzE O;obtain rfl:=zzA e4;exact⟨⟨n0,D,g,E,I⟩,cZ (aI c0 (aI c1 (aI c2 (aI q (aI u cG))))),az R,(show g<lim by have:=(aQ l).2;unfold lim;omega),bulks.short U (Nat.le_trans Q B)⟩
theorem s8{b o m:Nat}{cs:List Value}{x:DataW H×List MemPlace}(g:Rows.uptoBulk x.1≤1048576)(hc:W.cells? base ⟨b,o,none⟩ 10=some cs)
 (h:DataW.trod enc Tryz.prog W base (fun _=>true) true m 53 cs=some x):∃s:Ck.Region,eS W b o s:=by
 obtain⟨n',d⟩:=bF Tryz.underlying53 δ δ hc h;obtain⟨v0,y0,c0,u0,t0⟩:=d 0 _ rfl;obtain⟨n0,O,x0,w0⟩:=zzB t0;obtain rfl:=zzA O;obtain⟨v1,y1,c1,u1,t1⟩:=d 1 _ rfl;obtain⟨n1,Q,x1,w1⟩:=zzD t1;obtain rfl:=zzA Q;obtain⟨v2,y2,c2,u2,t2⟩:=d 2 _ rfl;obtain⟨u,R,x2,y⟩:=zzC t2;obtain rfl:=zzA R;obtain⟨j,rfl⟩:∃m:Nat,u=(m:Int):=⟨u.toNat,by have:=(aQ y).1;omega⟩;obtain⟨v3,y3,D,u3,t3⟩:=d 3 _ rfl;obtain⟨n3,e3,x3⟩:=zzE t3;obtain rfl:=zzA e3;obtain⟨v4,y4,E,u4,t4⟩:=d 4 _ rfl;obtain⟨v,e4,x4,B⟩:=zzC t4;obtain rfl:=zzA e4;obtain⟨l,rfl⟩:∃m:Nat,v=(m:Int):=⟨v.toNat,by have:=(aQ B).1;omega⟩;obtain⟨v5,y5,I,u5,t5⟩:=d 5 _ rfl;obtain⟨n5,U,x5⟩:=zzE t5;obtain rfl:=zzA U;obtain⟨v6,y6,J,u6,t6⟩:=d 6 _ rfl;obtain⟨n6,V,x6⟩:=zzE t6;obtain rfl:=zzA V;obtain⟨v7,y7,K,u7,t7⟩:=d 7 _ rfl;obtain⟨w,X,x7,C⟩:=zzC t7;obtain rfl:=zzA X;obtain⟨q,rfl⟩:∃m:Nat,w=(m:Int):=⟨w.toNat,by have:=(aQ C).1;omega⟩;obtain⟨v8,y8,L,u8,t8⟩:=d 8 _ rfl;obtain⟨n8,Y,x8⟩:=zzE t8;obtain rfl:=zzA Y;obtain⟨v9,y9,N,u9,t9⟩:=d 9 _ rfl;obtain⟨n9,Z,x9,w9⟩:=zzD t9;obtain rfl:=zzA Z;exact⟨⟨n0,n1,j,n3,l,n5,n6,q,n8,n9⟩,cZ (aI c0 (aI c1 (aI c2 (aI D (aI E (aI I (aI J (aI K (aI L (aI N cG)))))))))),az w0,(show j<lim by have:=(aQ y).2;unfold lim;omega),(show l<lim by have:=(aQ B).2;unfold lim;omega),(show q<lim by have:=(aQ C).2;unfold lim;omega),bulks.short x1 (Nat.le_trans u1 g),bulks.short x9 (Nat.le_trans u9 g)⟩
theorem xg{b o m:Nat}{cs:List Value}{x:DataW H×List MemPlace}(y:Rows.uptoBulk x.1≤1048576)(B:W.cells? base ⟨b,o,none⟩ 4=some cs)
 (h:DataW.trod enc Tryz.prog W base (fun _=>true) true m 95 cs=some x):∃s:Ck.lU,kY W b o s:=by
 obtain⟨R,d⟩:=bF Tryz.underlying95 δ δ B h;obtain⟨Y,y0,c0,U,E⟩:=d 0 _ rfl;obtain⟨n0,u,x0,N⟩:=zzB E;obtain rfl:=zzA u;obtain⟨v1,y1,c1,V,I⟩:=d 1 _ rfl;obtain⟨C,v,x1,O⟩:=zzB I;obtain rfl:=zzA v;obtain⟨v2,y2,c2,L,J⟩:=d 2 _ rfl;obtain⟨D,w,Q,w2⟩:=zzD J;obtain rfl:=zzA w;obtain⟨Z,y3,q,X,K⟩:=d 3 _ rfl;obtain⟨j,e3,x3,l⟩:=zzC K;obtain rfl:=zzA e3;obtain⟨g,rfl⟩:∃m:Nat,j=(m:Int):=⟨j.toNat,by have:=(aQ l).1;omega⟩;exact⟨⟨n0,C,D,g⟩,cZ (aI c0 (aI c1 (aI c2 (aI q cG)))),az N,az O,(show g<lim by have:=(aQ l).2;unfold lim;omega),bulks.short Q (Nat.le_trans L y)⟩
theorem rS{b o m:Nat}{cs:List Value}{x:DataW H×List MemPlace}(g:Rows.uptoBulk x.1≤1048576)(L:W.cells? base ⟨b,o,none⟩ 8=some cs)
 (h:DataW.trod enc Tryz.prog W base (fun _=>true) true m 97 cs=some x):∃s:Ck.b7,iH W b o s:=by
 obtain⟨n',d⟩:=bF Tryz.underlying97 δ δ L h;obtain⟨v0,y0,c0,u0,X⟩:=d 0 _ rfl;obtain⟨n0,C,x0,w0⟩:=zzB X;obtain rfl:=zzA C;obtain⟨v1,y1,c1,u1,Y⟩:=d 1 _ rfl;obtain⟨N,D,x1,w1⟩:=zzD Y;obtain rfl:=zzA D;obtain⟨v2,y2,c2,u2,Z⟩:=d 2 _ rfl;obtain⟨O,E,x2,w2⟩:=zzD Z;obtain rfl:=zzA E;obtain⟨v3,y3,u,u3,t3⟩:=d 3 _ rfl;obtain⟨Q,e3,x3,w3⟩:=zzD t3;obtain rfl:=zzA e3;obtain⟨v4,y4,v,u4,t4⟩:=d 4 _ rfl;obtain⟨R,e4,x4⟩:=zzE t4;obtain rfl:=zzA e4;obtain⟨v5,y5,w,u5,t5⟩:=d 5 _ rfl;obtain⟨U,I,x5,w5⟩:=zzD t5;obtain rfl:=zzA I;obtain⟨v6,y6,y,u6,t6⟩:=d 6 _ rfl;obtain⟨V,J,x6,w6⟩:=zzB t6;obtain rfl:=zzA J;obtain⟨v7,y7,B,u7,t7⟩:=d 7 _ rfl;obtain⟨l,K,x7,q⟩:=zzC t7;obtain rfl:=zzA K;obtain⟨j,rfl⟩:∃m:Nat,l=(m:Int):=⟨l.toNat,by have:=(aQ q).1;omega⟩;exact⟨⟨n0,N,O,Q,R,U,V,j⟩,cZ (aI c0 (aI c1 (aI c2 (aI u (aI v (aI w (aI y (aI B cG)))))))),az w0,az w6,(show j<lim by have:=(aQ q).2;unfold lim;omega),bulks.short x1 (Nat.le_trans u1 g),bulks.short x2 (Nat.le_trans u2 g),bulks.short x3 (Nat.le_trans u3 g),bulks.short x5 (Nat.le_trans u5 g)⟩
theorem Ag{b o m:Nat}{cs:List Value}{x:DataW H×List MemPlace}(g:Rows.uptoBulk x.1≤1048576)(E:W.cells? base ⟨b,o,none⟩ 6=some cs)
 (h:DataW.trod enc Tryz.prog W base (fun _=>true) true m 87 cs=some x):∃s:Ck.Irq,tm W b o s:=by
 obtain⟨n',d⟩:=bF Tryz.underlying87 δ δ E h;obtain⟨v0,y0,c0,u0,N⟩:=d 0 _ rfl;obtain⟨n0,y,x0,w0⟩:=zzB N;obtain rfl:=zzA y;obtain⟨v1,y1,c1,X,O⟩:=d 1 _ rfl;obtain⟨I,B,x1,w1⟩:=zzD O;obtain rfl:=zzA B;obtain⟨v2,y2,c2,Y,Q⟩:=d 2 _ rfl;obtain⟨J,C,x2,w2⟩:=zzD Q;obtain rfl:=zzA C;obtain⟨v3,y3,u,Z,R⟩:=d 3 _ rfl;obtain⟨K,e3,x3,w3⟩:=zzD R;obtain rfl:=zzA e3;obtain⟨v4,y4,v,u4,U⟩:=d 4 _ rfl;obtain⟨l,e4,x4,q⟩:=zzC U;obtain rfl:=zzA e4;obtain⟨j,rfl⟩:∃m:Nat,l=(m:Int):=⟨l.toNat,by have:=(aQ q).1;omega⟩;obtain⟨v5,y5,w,u5,V⟩:=d 5 _ rfl;obtain⟨L,D,x5⟩:=zzE V;obtain rfl:=zzA D;exact⟨⟨n0,I,J,K,j,L⟩,cZ (aI c0 (aI c1 (aI c2 (aI u (aI v (aI w cG)))))),az w0,(show j<lim by have:=(aQ q).2;unfold lim;omega),bulks.short x1 (Nat.le_trans X g),bulks.short x2 (Nat.le_trans Y g),bulks.short x3 (Nat.le_trans Z g)⟩
theorem uW{b o m:Nat}{cs:List Value}{x:DataW H×List MemPlace}(g:Rows.uptoBulk x.1≤1048576)(E:W.cells? base ⟨b,o,none⟩ 6=some cs)
 (h:DataW.trod enc Tryz.prog W base (fun _=>true) true m 89 cs=some x):∃s:Ck.eW,lV W b o s:=by
 obtain⟨n',d⟩:=bF Tryz.underlying89 δ δ E h;obtain⟨v0,y0,c0,u0,N⟩:=d 0 _ rfl;obtain⟨n0,y,x0,w0⟩:=zzB N;obtain rfl:=zzA y;obtain⟨v1,y1,c1,X,O⟩:=d 1 _ rfl;obtain⟨I,B,x1,w1⟩:=zzD O;obtain rfl:=zzA B;obtain⟨v2,y2,c2,Y,Q⟩:=d 2 _ rfl;obtain⟨J,C,x2,w2⟩:=zzD Q;obtain rfl:=zzA C;obtain⟨v3,y3,u,Z,R⟩:=d 3 _ rfl;obtain⟨K,e3,x3,w3⟩:=zzD R;obtain rfl:=zzA e3;obtain⟨v4,y4,v,u4,U⟩:=d 4 _ rfl;obtain⟨L,e4,x4,w4⟩:=zzB U;obtain rfl:=zzA e4;obtain⟨v5,y5,w,u5,V⟩:=d 5 _ rfl;obtain⟨l,D,x5,q⟩:=zzC V;obtain rfl:=zzA D;obtain⟨j,rfl⟩:∃m:Nat,l=(m:Int):=⟨l.toNat,by have:=(aQ q).1;omega⟩;exact⟨⟨n0,I,J,K,L,j⟩,cZ (aI c0 (aI c1 (aI c2 (aI u (aI v (aI w cG)))))),az w0,az w4,(show j<lim by have:=(aQ q).2;unfold lim;omega),bulks.short x1 (Nat.le_trans X g),bulks.short x2 (Nat.le_trans Y g),bulks.short x3 (Nat.le_trans Z g)⟩
theorem zX{b o m:Nat}{cs:List Value}{x:DataW H×List MemPlace}(D:Rows.uptoBulk x.1≤1048576)(E:W.cells? base ⟨b,o,none⟩ 4=some cs)
 (h:DataW.trod enc Tryz.prog W base (fun _=>true) true m 99 cs=some x):∃s:Run,kE W b o s:=by
 obtain⟨U,d⟩:=bF Tryz.underlying99 δ δ E h;obtain⟨Z,y0,c0,V,J⟩:=d 0 _ rfl;obtain⟨n0,y,x0,Q⟩:=zzB J;obtain rfl:=zzA y;obtain⟨v1,y1,c1,O,K⟩:=d 1 _ rfl;obtain⟨I,B,R,w1⟩:=zzD K;obtain rfl:=zzA B;obtain⟨v2,y2,c2,X,L⟩:=d 2 _ rfl;obtain⟨l,C,x2,u⟩:=zzC L;obtain rfl:=zzA C;obtain⟨g,rfl⟩:∃m:Nat,l=(m:Int):=⟨l.toNat,by have:=(aQ u).1;omega⟩;obtain⟨v3,y3,w,Y,N⟩:=d 3 _ rfl;obtain⟨q,e3,x3,v⟩:=zzC N;obtain rfl:=zzA e3;obtain⟨j,rfl⟩:∃m:Nat,q=(m:Int):=⟨q.toNat,by have:=(aQ v).1;omega⟩;exact⟨⟨n0,I,g,j⟩,cZ (aI c0 (aI c1 (aI c2 (aI w cG)))),az Q,(show g<lim by have:=(aQ u).2;unfold lim;omega),(show j<lim by have:=(aQ v).2;unfold lim;omega),bulks.short R (Nat.le_trans O D)⟩
theorem lu{b o m:Nat}{cs:List Value}{x:DataW H×List MemPlace}(l:Rows.uptoBulk x.1≤1048576)(q:W.cells? base ⟨b,o,none⟩ 2=some cs)
 (h:DataW.trod enc Tryz.prog W base (fun _=>true) true m 47 cs=some x):∃s:Ck.iE,fP W b o s:=by
 obtain⟨D,d⟩:=bF Tryz.underlying47 δ δ q h;obtain⟨I,L,c0,E,v⟩:=d 0 _ rfl;obtain⟨n0,g,K,B⟩:=zzB v;obtain rfl:=zzA g;obtain⟨v1,N,c1,y,w⟩:=d 1 _ rfl;obtain⟨u,j,C,J⟩:=zzD w;obtain rfl:=zzA j;exact⟨⟨n0,u⟩,cZ (aI c0 (aI c1 cG)),az B,bulks.short C (Nat.le_trans y l)⟩
theorem BD{b o m:Nat}{cs:List Value}{x:DataW H×List MemPlace}(g:Rows.uptoBulk x.1≤1048576)(u:W.cells? base ⟨b,o,none⟩ 3=some cs)
 (h:DataW.trod enc Tryz.prog W base (fun _=>true) true m 101 cs=some x):∃s:Ck.Ban,tq W b o s:=by
 obtain⟨L,d⟩:=bF Tryz.underlying101 δ δ u h;obtain⟨O,V,c0,N,y⟩:=d 0 _ rfl;obtain⟨n0,j,U,I⟩:=zzB y;obtain rfl:=zzA j;obtain⟨v1,X,c1,D,B⟩:=d 1 _ rfl;obtain⟨v,l,J,Q⟩:=zzD B;obtain rfl:=zzA l;obtain⟨v2,Y,c2,E,C⟩:=d 2 _ rfl;obtain⟨w,q,K,R⟩:=zzD C;obtain rfl:=zzA q;exact⟨⟨n0,v,w⟩,cZ (aI c0 (aI c1 (aI c2 cG))),az I,bulks.short J (Nat.le_trans D g),bulks.short K (Nat.le_trans E g)⟩
theorem tQ{b o m:Nat}{cs:List Value}{x:DataW H×List MemPlace}(l:Rows.uptoBulk x.1≤1048576)(K:W.cells? base ⟨b,o,none⟩ 5=some cs)
 (h:DataW.trod enc Tryz.prog W base (fun _=>true) true m 65 cs=some x):∃s:Ck.bB,jk W.heap.size W b o s:=by
 obtain⟨n',d⟩:=bF Tryz.underlying65 δ δ K h;obtain⟨v0,y0,c0,u0,N⟩:=d 0 _ rfl;obtain⟨n0,E,x0,w0⟩:=zzB N;obtain rfl:=zzA E;obtain⟨v1,y1,c1,X,O⟩:=d 1 _ rfl;obtain⟨L,I,x1,w1⟩:=zzD O;obtain rfl:=zzA I;obtain⟨v2,y2,c2,u2,Q⟩:=d 2 _ rfl;obtain⟨v,J,x2,y⟩:=zzC Q;obtain rfl:=zzA J;obtain⟨q,rfl⟩:∃m:Nat,v=(m:Int):=⟨v.toNat,by have:=(aQ y).1;omega⟩;obtain⟨v3,y3,C,u3,U⟩:=d 3 _ rfl;obtain⟨w,e3,x3,B⟩:=zzC U;obtain rfl:=zzA e3;obtain⟨u,rfl⟩:∃m:Nat,w=(m:Int):=⟨w.toNat,by have:=(aQ B).1;omega⟩;obtain⟨Z,y4,D,Y,V⟩:=d 4 _ rfl;obtain⟨j,g⟩:=bJ (R:=dO) (k:=5) Tryz.underlying42 δ ψ (fun _=>rfl) (fun _ _ _ _ _=>sZ) (Nat.le_trans Y l) V;exact⟨⟨n0,L,q,u,j⟩,Z,cZ (aI c0 (aI c1 (aI c2 (aI C (aI D cG))))),g,az w0,(show q<lim by have:=(aQ y).2;unfold lim;omega),(show u<lim by have:=(aQ B).2;unfold lim;omega),bulks.short x1 (Nat.le_trans X l)⟩
theorem qu{b o m:Nat}{cs:List Value}{x:DataW H×List MemPlace}(g:Rows.uptoBulk x.1≤1048576)(K:W.cells? base ⟨b,o,none⟩ 6=some cs)
 (h:DataW.trod enc Tryz.prog W base (fun _=>true) true m 45 cs=some x):∃s:Ck.aZ,iD W.heap.size W b o s:=by
 obtain⟨n',d⟩:=bF Tryz.underlying45 δ δ K h;obtain⟨v0,y0,c0,u0,O⟩:=d 0 _ rfl;obtain⟨n0,E,x0,w0⟩:=zzB O;obtain rfl:=zzA E;obtain⟨v1,y1,c1,Z,Q⟩:=d 1 _ rfl;obtain⟨L,I,x1,w1⟩:=zzD Q;obtain rfl:=zzA I;obtain⟨v2,y2,c2,u2,U⟩:=d 2 _ rfl;obtain⟨w,J,x2,y⟩:=zzC U;obtain rfl:=zzA J;obtain⟨v,rfl⟩:∃m:Nat,w=(m:Int):=⟨w.toNat,by have:=(aQ y).1;omega⟩;obtain⟨v3,y3,B,u3,V⟩:=d 3 _ rfl;obtain⟨N,e3,x3⟩:=zzE V;obtain rfl:=zzA e3;obtain⟨v4,y4,C,u4,X⟩:=d 4 _ rfl;obtain⟨q,j⟩:=bJ (R:=dO) (k:=5) Tryz.underlying42 δ ψ (fun _=>rfl) (fun _ _ _ _ _=>sZ) (Nat.le_trans u4 g) X;obtain⟨v5,y5,D,u5,Y⟩:=d 5 _ rfl;obtain⟨u,l⟩:=bJ (R:=kY) (k:=4) Tryz.underlying43 δ ψ (fun _=>rfl) (fun _ _ _ _ _=>xg) (Nat.le_trans u5 g) Y;exact⟨⟨n0,L,v,N,q,u⟩,v4,v5,cZ (aI c0 (aI c1 (aI c2 (aI B (aI C (aI D cG)))))),j,l,az w0,(show v<lim by have:=(aQ y).2;unfold lim;omega),bulks.short x1 (Nat.le_trans Z g)⟩
theorem yR{b o m:Nat}{cs:List Value}{x:DataW H×List MemPlace}(C:Rows.uptoBulk x.1≤1048576)(D:W.cells? base ⟨b,o,none⟩ 4=some cs)
 (h:DataW.trod enc Tryz.prog W base (fun _=>true) true m 71 cs=some x):∃s:Ck.cN,gY W.heap.size W b o s:=by
 obtain⟨U,d⟩:=bF Tryz.underlying71 δ δ D h;obtain⟨Z,y0,c0,V,I⟩:=d 0 _ rfl;obtain⟨n0,w,x0,Q⟩:=zzB I;obtain rfl:=zzA w;obtain⟨v1,y1,c1,X,J⟩:=d 1 _ rfl;obtain⟨q,y,x1,u⟩:=zzC J;obtain rfl:=zzA y;obtain⟨l,rfl⟩:∃m:Nat,q=(m:Int):=⟨q.toNat,by have:=(aQ u).1;omega⟩;obtain⟨v2,y2,c2,Y,K⟩:=d 2 _ rfl;obtain⟨E,B,x2⟩:=zzE K;obtain rfl:=zzA B;obtain⟨O,y3,v,N,L⟩:=d 3 _ rfl;obtain⟨j,g⟩:=bJ (R:=kE) (k:=4) Tryz.underlying69 δ ψ (fun _=>rfl) (fun _ _ _ _ _=>zX) (Nat.le_trans N C) L;exact⟨⟨n0,l,E,j⟩,O,cZ (aI c0 (aI c1 (aI c2 (aI v cG)))),g,az Q,(show l<lim by have:=(aQ u).2;unfold lim;omega)⟩
theorem xq{b o m:Nat}{cs:List Value}{x:DataW H×List MemPlace}(l:Rows.uptoBulk x.1≤1048576)(D:W.cells? base ⟨b,o,none⟩ 4=some cs)
 (h:DataW.trod enc Tryz.prog W base (fun _=>true) true m 68 cs=some x):∃s:Ck.gD,pN W.heap.size W b o s:=by
 obtain⟨X,d⟩:=bF Tryz.underlying68 δ δ D h;obtain⟨v0,y0,c0,Y,I⟩:=d 0 _ rfl;obtain⟨n0,y,x0,U⟩:=zzB I;obtain rfl:=zzA y;obtain⟨v1,y1,c1,N,J⟩:=d 1 _ rfl;obtain⟨E,B,V,w1⟩:=zzD J;obtain rfl:=zzA B;obtain⟨v2,y2,c2,Z,K⟩:=d 2 _ rfl;obtain⟨u,C,x2,v⟩:=zzC K;obtain rfl:=zzA C;obtain⟨q,rfl⟩:∃m:Nat,u=(m:Int):=⟨u.toNat,by have:=(aQ v).1;omega⟩;obtain⟨Q,y3,w,O,L⟩:=d 3 _ rfl;obtain⟨j,g⟩:=bJ (R:=gY W.heap.size) (k:=4) Tryz.underlying66 δ ψ (fun _=>rfl) (fun _ _ _ _ _=>yR) (Nat.le_trans O l) L;exact⟨⟨n0,E,q,j⟩,Q,cZ (aI c0 (aI c1 (aI c2 (aI w cG)))),g,az U,(show q<lim by have:=(aQ v).2;unfold lim;omega),bulks.short V (Nat.le_trans N l)⟩
theorem Dg{α:Type}{q u v w x y B C D E d g h j:α}:∀{l:List α},l.length=14→l[0]?=some q→l[1]?=some u→l[2]?=some v→l[3]?=some w→l[4]?=some x→l[5]?=some y→l[6]?=some B→l[7]?=some C→l[8]?=some D→l[9]?=some E→l[10]?=some d→l[11]?=some g→l[12]?=some h→l[13]?=some j →
 l=[q,u,v,w,x,y,B,C,D,E,d,g,h,j]
 | [_,_,_,_,_,_,_,_,_,_,_,_,_,_],_,h0,h1,h2,h3,h4,h5,h6,h7,h8,h9,h10,h11,h12,h13=>by
  simp at h0 h1 h2 h3 h4 h5 h6 h7 h8 h9 h10 h11 h12 h13;subst h0 h1 h2 h3 h4 h5 h6 h7 h8 h9 h10 h11 h12 h13;rfl
theorem sD{r:Reach}{b0:Nat}{v:Value}{d:DataW H}{ps:List MemPlace}(B:Value.okWide Tryz.prog W r b0 33 v)(q:DataW.Trod enc Tryz.prog W base (fun _=>true) true 33 v d ps)(h:Rows.uptoBulk d≤1048576):
 ∃(V:aY) (P:Ck.aF),v=.agg (V.cells P).toArray∧ax W.heap.size W V P:=by
 obtain⟨cs,rfl,O⟩:=okWide_struct Tryz.underlying33 B;obtain⟨j,q⟩:=q;have l:cs.toList.length=14:=by
  have e:Tryz.prog.cellsOf 33=14:=δ
  simp[O,e]
 have q:DataW.trod enc Tryz.prog W base (fun _=>true) true j 33 cs.toList=some (d,ps):=q;obtain⟨n',g⟩:=qW (k:=14) Tryz.underlying33 δ δ l q;obtain⟨v0,y0,c0,u0,t0⟩:=g 0 _ rfl;obtain⟨n0,e0,x0,w0⟩:=zzB t0;obtain rfl:=zzA e0;obtain⟨v1,y1,c1,u1,t1⟩:=g 1 _ rfl;obtain⟨n1,e1,x1,w1⟩:=zzD t1;obtain rfl:=zzA e1;obtain⟨v2,y2,c2,u2,t2⟩:=g 2 _ rfl;obtain⟨a9,Q⟩:=bJ (R:=tj) (k:=3) Tryz.underlying22 δ ψ (fun _=>rfl) (fun _ _ _ _ _=>zq) (Nat.le_trans u2 h) t2;obtain⟨v3,y3,c3,u3,t3⟩:=g 3 _ rfl;obtain⟨bb,U⟩:=bJ (R:=jk W.heap.size) (k:=5) Tryz.underlying23 δ ψ (fun _=>rfl) (fun _ _ _ _ _=>tQ) (Nat.le_trans u3 h) t3;obtain⟨v4,y4,c4,u4,t4⟩:=g 4 _ rfl;obtain⟨bc,X⟩:=bJ (R:=eS) (k:=10) Tryz.underlying24 δ ψ (fun _=>rfl) (fun _ _ _ _ _=>s8) (Nat.le_trans u4 h) t4;obtain⟨v5,y5,c5,u5,t5⟩:=g 5 _ rfl;obtain⟨bd,Y⟩:=bJ (R:=iD W.heap.size) (k:=6) Tryz.underlying25 δ ψ (fun _=>rfl) (fun _ _ _ _ _=>qu) (Nat.le_trans u5 h) t5;obtain⟨v6,y6,c6,u6,t6⟩:=g 6 _ rfl;obtain⟨be,Z⟩:=bJ (R:=iH) (k:=8) Tryz.underlying26 δ ψ (fun _=>rfl) (fun _ _ _ _ _=>rS) (Nat.le_trans u6 h) t6;obtain⟨v7,y7,c7,u7,t7⟩:=g 7 _ rfl;obtain⟨bf,aa⟩:=bJ (R:=tm) (k:=6) Tryz.underlying27 δ ψ (fun _=>rfl) (fun _ _ _ _ _=>Ag) (Nat.le_trans u7 h) t7;obtain⟨v8,y8,c8,u8,t8⟩:=g 8 _ rfl;obtain⟨bl,ac⟩:=bJ (R:=lV) (k:=6) Tryz.underlying28 δ ψ (fun _=>rfl) (fun _ _ _ _ _=>uW) (Nat.le_trans u8 h) t8;obtain⟨v9,y9,c9,u9,t9⟩:=g 9 _ rfl;obtain⟨bm,ad⟩:=bJ (R:=pN W.heap.size) (k:=4) Tryz.underlying29 δ ψ (fun _=>rfl) (fun _ _ _ _ _=>xq) (Nat.le_trans u9 h) t9;obtain⟨a5,bo,J,a1,af⟩:=g 10 _ rfl;obtain⟨C,u⟩:=bJ (R:=fP) (k:=2) Tryz.underlying30 δ ψ (fun _=>rfl) (fun _ _ _ _ _=>lu) (Nat.le_trans a1 h) af;obtain⟨a6,bp,K,a2,al⟩:=g 11 _ rfl;obtain⟨D,w⟩:=bJ (R:=fP) (k:=2) Tryz.underlying30 δ ψ (fun _=>rfl) (fun _ _ _ _ _=>lu) (Nat.le_trans a2 h) al;obtain⟨a7,bs,L,a3,an⟩:=g 12 _ rfl;obtain⟨E,x⟩:=bJ (R:=fP) (k:=2) Tryz.underlying30 δ ψ (fun _=>rfl) (fun _ _ _ _ _=>lu) (Nat.le_trans a3 h) an;obtain⟨a8,bt,N,a4,a0⟩:=g 13 _ rfl;obtain⟨I,y⟩:=bJ (R:=tq) (k:=3) Tryz.underlying31 δ ψ (fun _=>rfl) (fun _ _ _ _ _=>BD) (Nat.le_trans a4 h) a0;refine⟨⟨v2,v3,v4,v5,v6,v7,v8,v9,a5,a6,a7,a8⟩,⟨n0,n1,a9,bb,bc,bd,be,bf,bl,bm,C,D,E,I⟩,?_,⟨Q,U,X,Y,Z,aa,ac,ad,u,w,x,y,az w0,bulks.short x1 (Nat.le_trans u1 h)⟩⟩;have e:=Dg l c0 c1 c2 c3 c4 c5 c6 c7 c8 c9 J K L N;exact congrArg Value.agg (Array.ext' e)
end
end
section
def vc:MemPlace→Nat
 | .cell b off=>(b*512+off)*2
 | .map b=>b*2+1
def sX:List MemPlace→Nat→Bool
 | [],_=>true
 | x::xs,m =>!m.testBit (vc x)&&sX xs (m ||| 1 <<< vc x)
theorem oP:∀(xs:List MemPlace) (m:Nat),sX xs m=true→xs.Nodup∧∀x∈xs,m.testBit (vc x)=false
 | [],m,_=>⟨List.nodup_nil,fun x h=>by cases h⟩
 | x::xs,m,h=>by
  simp only[sX,Bool.and_eq_true,Bool.not_eq_true']at h;obtain⟨j,g⟩:=oP xs _ h.2;refine⟨List.nodup_cons.2 ⟨fun l=>?_,j⟩,fun y d=>?_⟩
  ·have:=g x l
   rw[Nat.testBit_or,Nat.one_shiftLeft,Nat.testBit_two_pow_self]at this;simp at this
  ·rcases List.mem_cons.1 d with rfl|d
   ·exact h.1
   ·have:=g y d
    rw[Nat.testBit_or,Bool.or_eq_false_iff]at this;exact this.1
theorem nI{P:Program}{w:World}{l:List (String×DataW Unit)}(d:Nat)(h:(DataW.laidRun P w d (l.map (·.1))).map (·.1)=some l)
 (j:(DataW.laidRun P w d (l.map (·.1))).map (fun x=>laidRowsB P w x.2)=some true)(g:(DataW.laidRun P w d (l.map (·.1))).map (fun x=>sX x.2 0)=some true):laidMet P l w:=by
 cases hx:DataW.laidRun P w d (l.map (·.1))with
 | none=>simp[hx]at h
 | some x =>
  obtain⟨u,q⟩:=x;simp only[hx,Option.map_some,Option.some.injEq]at h j g;subst h;exact laidMet_of_run d hx (decide_eq_true (oP q 0 g).1) j
open Go.Lib Go.RowKit
variable {W:World} {g:Nat}
theorem vN(h:laidMetH Tryz.prog Rows.placeNamesRow.laid W):
 laidMet Tryz.prog (Rows.placeNamesRow.laid.filter fun x=>x.2.handleName?.isNone) W∧handlesMet Tryz.prog [("errors.errorType",Rows.laid_errors_errorType)] W:=by
 have e:Rows.placeNamesRow.laid.filter (fun x=>x.2.handleName?.isSome)=[("errors.errorType",Rows.laid_errors_errorType)]:=δ
 unfold laidMetH at h;simp only[e]at h;exact h
theorem B4:((List.range Tryz.prog.types.size).filter fun t=>Tryz.prog.rowNamed t [101,114,114,111,114])=[75]:=δ
theorem yh(h:handlesMet Tryz.prog [("errors.errorType",Rows.laid_errors_errorType)] W):pQ W:=by
 have d:Tryz.prog.globalNamed "errors.errorType" = some 0:=δ
 have g:(Tryz.prog.cutTypes.find? (·.1 == "internal/reflectlite.rtype")).map (·.2)=some 231:=δ
 obtain⟨name,u,ty,q,v,e3,e4,j⟩:=h _ (List.mem_singleton.2 rfl);have w:name=[101,114,114,111,114]:=(Option.some.inj q).symm;subst w;obtain rfl:=Option.some.inj (g.symm.trans v);have l:ty∈(List.range Tryz.prog.types.size).filter fun t=>Tryz.prog.rowNamed t [101,114,114,111,114]:=List.mem_filter.2 ⟨List.mem_range.2 e3,e4⟩
 rw[B4]at l;obtain rfl:=List.mem_singleton.1 l;have hh:typeHandle Tryz.prog 75=.pointer (some ⟨13,75,none⟩):=δ
 rw[hh]at j;unfold pQ
 simpa using World.var?_cell d j 0
theorem lZ{n:String}{k:IntKind}{y:List Int}{m:Nat}{t e:TypeId}(D:Tryz.prog.globalNamed n=some g)(w:(Tryz.prog.globals[g]?).map (·.type)=some t)
 (E:Tryz.prog.underlying t=some (.array m e))(C:Tryz.prog.underlying e=some (.int k))(l:Tryz.prog.cellsOf e=1)(u:Tryz.prog.cellsOf t=m)(h:VarReads Tryz.prog W n (tabData k y)):TabIs Tryz.prog W n k y:=by
 obtain⟨H,t',cs,x,p,v,d,j,B⟩:=h;obtain rfl:=Option.some.inj (D.symm.trans v);obtain rfl:=Option.some.inj (w.symm.trans d);have q:=cells_of_tab E C l u B;unfold TabIs;rw[j];exact congrArg some (Array.ext' q)
theorem mq{W:World}{n:String}{t:TypeId}{g:Nat}{ms:Array (String×TypeId)}{d:DataW Unit}(y:Tryz.prog.globalNamed n=some g)(x:(Tryz.prog.globals[g]?).map (·.type)=some t)
 (D:Tryz.prog.underlying t=some (.interface ms))(h:VarReads Tryz.prog W n d):∃v,W.cell? ⟨g,0,none⟩=some v∧vu v:=by
 obtain⟨H,t',cs,j,p,w,l,q,u⟩:=h;obtain rfl:=Option.some.inj (y.symm.trans w);obtain rfl:=Option.some.inj (x.symm.trans l);have B:=World.var?_cell y q 0
 cases j with
 | zero=>simp[DataW.trod]at u
 | succ j =>
  have:∃v,cs.toList=[v]∧vu v:=by
   simp only[DataW.trod,D]at u;split at u<;>simp_all [vu]
  obtain⟨v,E,C⟩:=this;have e:cs = #[v]:=Array.ext' E;subst e;exact⟨v,B,C⟩
theorem qJ{n:String}{k:IntKind}{l:List Int}{w w':World}(u:Tryz.prog.globalNamed n=some g)(h:TabIs Tryz.prog w n k l)(q:Below w.heap.size w w'):TabIs Tryz.prog w' n k l:=by
 unfold TabIs World.var? at h⊢;rw[u]at h⊢;simp only[Option.bind_some]at h⊢;have j:g<w.heap.size:=by
  rcases Nat.lt_or_ge g w.heap.size with d|d
  ·exact d
  ·rw[Array.getElem?_eq_none d]at h;cases h
 rw[q.block g j];exact h
theorem ji.below{w w':World}(h:ji jd w)(x:Below w.heap.size w w'):ji jd w':=by
 have lt:∀{a:Addr} {v:Value},w.cell? a=some v→a.block<w.heap.size:=fun{a v} l=>by
  rcases Nat.lt_or_ge a.block w.heap.size with u|u
  ·exact u
  ·simp[World.cell?,Array.getElem?_eq_none u]at l
 have keep:∀{a:Addr} {v:Value},w.cell? a=some v→w'.cell? a=some v:=fun{a v} l=>(x.cell (lt l)).trans l
 refine⟨fun i hi=>keep (h.QS i hi),qJ (g:=2) δ h.space x,?_,qJ (g:=5) δ h.pow x,?_,?_,?_⟩
 ·obtain⟨p,q,B,C,D⟩:=h.white
  exact⟨p,q,keep B,fun j v d=>keep (C j v d),fun i hi=>keep (D i hi)⟩
 ·obtain⟨m,E⟩:=h.max
  exact⟨m,keep E⟩
 ·obtain⟨v,d,y⟩:=h.e3
  exact⟨v,keep d,y⟩
 ·obtain⟨v,d,y⟩:=h.e4
  exact⟨v,keep d,y⟩
theorem vM(h:laidMetH Tryz.prog Rows.placeNamesRow.laid W)(x:W.ShapedOpen Tryz.prog):io W.heap.size W:=by
 obtain⟨N,hh⟩:=vN h;have l:∀{n:String} {d:DataW Unit},(n,d)∈Rows.placeNamesRow.laid→d.handleName?.isNone=true→VarReads Tryz.prog W n d:=fun O Q=>laidMet.reads N (List.mem_filter.2 ⟨O,Q⟩)
 have u:TabIs Tryz.prog W "bulkhead/scan.classes" .u8 ((List.range 128).map fun i=>(jd i:Int)):=
  lZ (g:=1) (t:=308) (e:=5) (m:=128) δ δ δ δ δ δ
   ((show Rows.laid_bulkhead_scan_classes=tabData .u8 ((List.range 128).map fun i=>(jd i:Int)) by kernel_rfl)▸l (n := "bulkhead/scan.classes") (d:=Rows.laid_bulkhead_scan_classes) (.tail _ (.tail _ (.tail _ (.tail _ (.tail _ (.tail _ (.tail _ (.tail _ (.tail _ (.head _)))))))))) δ)
 have w:TabIs Tryz.prog W "internal/strconv.uint64pow10" .u64 pow10Tab:=
  lZ (g:=5) (t:=341) (e:=41) (m:=20) δ δ δ δ δ δ
   ((show Rows.laid_internal_strconv_uint64pow10=tabData .u64 pow10Tab by kernel_rfl)▸l (n := "internal/strconv.uint64pow10") (d:=Rows.laid_internal_strconv_uint64pow10) (.tail _ (.tail _ (.head _))) δ)
 have y:TabIs Tryz.prog W "strings.asciiSpace" .u8 asciiSpaceTab:=
  lZ (g:=2) (t:=332) (e:=5) (m:=256) δ δ δ δ δ δ
   ((show Rows.laid_strings_asciiSpace=tabData .u8 asciiSpaceTab by kernel_rfl)▸l (n := "strings.asciiSpace") (d:=Rows.laid_strings_asciiSpace) (.tail _ (.tail _ (.tail _ (.tail _ (.tail _ (.tail _ (.tail _ (.tail _ (.head _))))))))) δ)
 have C:WhiteTab 7 W:=whiteTab_of_reads Tryz.lays199 ⟨δ,δ,δ,δ,δ,δ,δ,δ⟩
  ((show Rows.laid_unicode_White_Space=whiteData by kernel_rfl)▸l (n := "unicode.White_Space") (d:=Rows.laid_unicode_White_Space) (.tail _ (.tail _ (.tail _ (.tail _ (.tail _ (.tail _ (.tail _ (.head _)))))))) δ)
 have K:ji jd W:={
  QS:=fun i hi=>by
   have:=u.cell (g:=1) δ i (by simpa using hi);rw[this];simp[List.getD,hi]
  space:=y
  white:=by
   obtain⟨T,X,R,V,D,E,H,I,J⟩:=C;refine⟨(T,X),(R,V),D,fun j v q=>?_,J⟩
   match j,q with
   | 0,q=>obtain rfl:=Option.some.inj q;exact E
   | 1,q=>obtain rfl:=Option.some.inj q;exact H
   | 2,q=>obtain rfl:=Option.some.inj q;exact I
   | j+3,q=>simp at q
  pow:=w
  max:=cell_of_shapedOpen_int (g:=6) (t:=3) (zero := #[.int .i64 0]) x (of_decide_eq_true δ) δ rfl δ δ Tryz.underlying3
  e3:=mq (g:=3) (t:=75) (ms:=_) δ δ (Tryz.underlying75) (l (n := "strconv.ErrSyntax") (d:=Rows.laid_strconv_ErrSyntax) (.tail _ (.tail _ (.tail _ (.tail _ (.tail _ (.tail _ (.head _))))))) δ)
  e4:=mq (g:=4) (t:=75) (ms:=_) δ δ (Tryz.underlying75) (l (n := "strconv.ErrRange") (d:=Rows.laid_strconv_ErrRange) (.tail _ (.tail _ (.tail _ (.tail _ (.tail _ (.head _)))))) δ) }
 have B:13<W.heap.size:=by
  obtain⟨o,_,U,_⟩:=x.2 13 (of_decide_eq_true δ) (of_decide_eq_true δ);exact(Array.getElem?_eq_some_iff.1 U).1
 exact⟨B,yh hh,fun w' L=>K.below L⟩
end
namespace kz
open Go.ChangeShapes Go.WideShapes Go.ChangeAt Go.RowKit
def put(h:Array Obj)(g:Nat)(cs:Array Value):Array Obj:=h.modify g fun
 | .cells _ t frozen =>.cells cs t frozen
 | o=>o
def tab:DataW Unit→List Value
 | .agg l=>l.map fun d=>match d with|.lit (.int k n)=>Value.int k n|_ =>.nilIface
 | _=>[]
noncomputable def mG(os:Os):World:=
 let N:=(World.settled Tryz.prog os).heap.size
 let w0:=World.holding Tryz.prog os ⟨#[.cells (Lib.whiteT.map fun(z:Nat)=>Value.int .u16 (z:Int)).toArray (Tryz.lays199_ren.t 198),.cells #[.slice (some ⟨N,0,none⟩) 7 7,.slice none 0 0,.int .i64 2] (Tryz.lays199_ren.t 196),
  .cells #[.string ⟨#[105,110,118,97,108,105,100,32,115,121,110,116,97,120]⟩] 354,.cells #[.string ⟨#[118,97,108,117,101,32,111,117,116,32,111,102,32,114,97,110,103,101]⟩] 354], #[],[]⟩
 let h0:=put w0.heap 0 #[.iface 231 (.agg #[.pointer (some ⟨13,75,none⟩)])]
 let h1:=put h0 1 ((List.range 128).map fun i=>Value.int .u8 (jd i)).toArray
 let h2:=put h1 2 (Lib.asciiSpaceTab.map fun z=>Value.int .u8 z).toArray
 let h3:=put h2 3 #[.iface 352 (.pointer (some ⟨N+2,0,none⟩))]
 let h4:=put h3 4 #[.iface 352 (.pointer (some ⟨N+3,0,none⟩))]
 let h5:=put h4 5 (Lib.pow10Tab.map fun z=>Value.int .u64 z).toArray
 let h7:=put h5 7 #[.pointer (some ⟨N+1,0,none⟩)]
 let h8:=put h7 8 (Lib.firstTab.map fun z=>Value.int .u8 z).toArray
 let h9:=put h8 9 ((List.range 16).flatMap fun i=>[Value.int .u8 (Lib.accLo i),Value.int .u8 (Lib.accHi i)]).toArray
 let h10:=put h9 10 (tab Rows.laid_math_bits_deBruijn32tab).toArray
 let h11:=put h10 11 (tab Rows.laid_math_bits_deBruijn64tab).toArray
 { w0 with heap:=h11 }
noncomputable abbrev wl (os:Os):World:=(mG os).forCall (fun _ _=>0) ⟨#[], #[],[]⟩
theorem wl1(os:Os):(DataW.laidRun Tryz.prog (wl os).memory 10 ((Rows.placeNamesRow.laid.filter fun x=>x.2.handleName?.isNone).map (·.1))).map (·.1)=some (Rows.placeNamesRow.laid.filter fun x=>x.2.handleName?.isNone):=δ
theorem wl2(os:Os):(DataW.laidRun Tryz.prog (wl os).memory 10 ((Rows.placeNamesRow.laid.filter fun x=>x.2.handleName?.isNone).map (·.1))).map (fun x=>laidRowsB Tryz.prog (wl os).memory x.2)=some true:=δ
theorem wl3(os:Os):(DataW.laidRun Tryz.prog (wl os).memory 10 ((Rows.placeNamesRow.laid.filter fun x=>x.2.handleName?.isNone).map (·.1))).map (fun x=>sX x.2 0)=some true:=δ
theorem wl4(os:Os):(Rows.placeNamesRow.laid.filter fun x=>x.2.handleName?.isSome).all (handleAtB Tryz.prog (wl os).memory)=true:=δ
theorem oX(os:Os):laidMetH Tryz.prog Rows.placeNamesRow.laid (wl os).memory:=
 laidMetH_of_parts (nI 10 (wl1 os) (wl2 os) (wl3 os)) (wl4 os)
theorem BX(os:Os):(wl os).variablesRefB Tryz.checked.prog=true:=δ
theorem BY(os:Os):((wl os).heap.toList.drop Tryz.checked.prog.globals.size).take ((begin Tryz.checked.prog (fun _ _=>0) default).world.heap.size-Tryz.checked.prog.globals.size)=(begin Tryz.checked.prog (fun _ _=>0) default).world.heap.toList.drop Tryz.checked.prog.globals.size:=δ
end kz
namespace placeStillUptoFacts
open Go
noncomputable abbrev P:=Tryz.pinned.checked.prog
abbrev f:Nat:=4
noncomputable abbrev fn:=Tryz.f4
noncomputable abbrev s:ChangeSpec:=(Rows.OpenSpec.upto Rows.placeStillSpec).bare
noncomputable abbrev c:=Rows.placeStillUptoRow
theorem j0:(c.wf (OpenSpec.ofChange s))=true:=δ
theorem j1:(laidOutB P)=true:=δ
theorem j2:(mapsRowed P)=true:=δ
theorem j3:(fn.params.all (P.readableRec ·))=true:=δ
theorem j4:(namedTie P c.named s.vars)=true:=δ
theorem j5:((c.stops==[]))=true:=δ
theorem j6:((P.stops==[]))=true:=δ
theorem j7:((c.knobs==[]))=true:=δ
theorem j8:((P.stopKnobs==[]))=true:=δ
theorem j9:((c.inPlace==P.inPlace f))=true:=δ
theorem j10:((c.unfollowed==P.unfollowed f))=true:=δ
theorem j11:((c.recurses==P.recurses f))=true:=δ
theorem j12:((c.named==P.varsNamed f))=true:=δ
theorem j13:((c.maps==(fn.params.toList++s.plain.varTypes P).any (P.mapsRec ·)))=true:=δ
theorem j14:((c.ifaces==(fn.params.toList++s.plain.varTypes P).any (P.ifacesRec ·)))=true:=δ
theorem j15:((c.mapsOut==P.mapsAmong fn.resultTypes.toList))=true:=δ
theorem j16:((c.loops==(fn.params.toList++s.plain.varTypes P).any (P.loopsFrom ·)))=true:=δ
theorem j17:((c.wideKeys==(fn.params.toList++s.plain.varTypes P++fn.resultTypes.toList).any (P.wideKeysFrom ·)))=true:=δ
theorem j18:(s.vars.all (P.varReadable ·))=true:=δ
theorem j19:(fn.resultTypes.all (fun t=>P.readableRec t&&decide (t<P.types.size)))=true:=δ
theorem j20:((c.ifacesOut==fn.resultTypes.toList.any (P.ifacesRec ·)))=true:=δ
theorem j21:((c.loopsOut==fn.resultTypes.toList.any (P.loopsFrom ·)))=true:=δ
theorem j22:((c.plainKeys==P.plainKeys))=true:=δ
theorem j23:(c.shortTexts.isNone)=true:=δ
theorem j24:(P.stopsHeard)=true:=δ
theorem j25:(P.mayEnter)=true:=δ
theorem j26:((c.lifted==P.liftsFinal))=true:=δ
theorem j27:((P.make==some c.make))=true:=δ
theorem j28:((c.kinds==(if c.domain.isEmpty then[]else fn.params.toList.map fun t=>match P.underlying t with|some (.int k)=>some k|_=>none)))=true:=δ
theorem j29:((c.pinned==c.pinnedBy))=true:=δ
theorem j30:((c.veiled==(fn.params.toList++s.plain.varTypes P++fn.resultTypes.toList).any (P.veiledRec ·)))=true:=δ
theorem j31:(c.veiledFits P fn.params.toList (fn.params.toList++s.plain.varTypes P++fn.resultTypes.toList))=true:=δ
theorem dw{a b:Bool}(h:a=true)(k:b=true):(a&&b)=true:=by rw[h,k];rfl
theorem closed:joinedFacts P f fn s c=true:=by
 unfold joinedFacts;exact(dw (dw (dw (dw (dw (dw (dw (dw (dw (dw (dw (dw (dw (dw (dw (dw (dw (dw (dw (dw (dw (dw (dw (dw (dw (dw (dw (dw (dw (dw (dw j0 j1) j2) j3) j4) j5) j6) j7) j8) j9) j10) j11) j12) j13) j14) j15) j16) j17) j18) j19) j20) j21) j22) j23) j24) j25) j26) j27) j28) j29) j30) j31)
end placeStillUptoFacts
namespace still
open Go.ChangeShapes Go.WideShapes Go.ChangeAt Go.RowKit
theorem own:ownKnob Tryz.prog.godebug=none:=δ
theorem wU:laidOutB Tryz.prog=true:=δ
theorem ov(H:Type)(enc:TypeId×Value→H)(W:World)(base:Nat)(args:Array Value)(w Q:List (DataW H))(g:List MemPlace)
 (d:∀(j:Nat) t v,Tryz.f4.params[j]?=some t→args[j]?=some v→Value.okWide Tryz.prog W .any base t v)
 (U:DataW.Whole enc Tryz.prog Tryz.f4.params.toList Rows.placeStillSpec.vars false W args.toList w Q g)(hL:laidMetH Tryz.prog Rows.placeNamesRow.laid W)(L:W.ShapedOpen Tryz.prog)(hk:Rows.uptoSmall H (w++Q)=true):
 Calls Tryz.prog 4 args W fun e W'=>∃v,e=.returned v∧Rows.placeStillSpec.post enc Tryz.prog Tryz.f4 false true false false W args v W':=by
 have C:=U;obtain⟨p,q,u,hV,rfl,af,al⟩:=U;have R:DataW.TrodAll enc Tryz.prog W 0 (fun _=>true) true Tryz.f4.params.toList args.toList w p:=u;rw[Tryz.params4]at R d;obtain⟨X,an,Y,aa,p0,q0,D,rfl,rfl,y,r0⟩:=trodAll_cons R;obtain⟨v1,a0,Z,ac,p1,q1,rfl,rfl,rfl,B,r1⟩:=trodAll_cons r0;obtain⟨rfl,rfl,rfl⟩:=trodAll_nil r1;obtain rfl:args = #[X,v1]:=by cases args;simp_all
 obtain⟨rfl,rfl⟩:=trodVars_none hV;have ad:Rows.uptoBulk Y+Rows.uptoBulk Z≤1048576:=by simpa[Rows.uptoSmall,Rows.uptoBulkAll]using hk
 have N:∀x∈p0,x.block<W.heap.size:=by obtain⟨m,I⟩:=y;exact DataW.trod_lt m _ _ _ I
 obtain⟨V,P,rfl,hp⟩:=sD (d 0 33 X rfl rfl) y χ;have O:∀x∈p1,x.block<W.heap.size:=by obtain⟨m,I⟩:=B;exact DataW.trod_lt m _ _ _ I
 obtain⟨m1,J⟩:=id B;obtain⟨n1,rfl⟩:=okWide_int Tryz.underlying3 (d 1 3 v1 rfl rfl);obtain⟨n0,e0,x0,w0⟩:=zzB J;obtain rfl:n1=n0:=by simpa[Value.cells]using e0
 have K:=Go.Proofs.YthobcefghkeddaaGreatDoor.az w0;clear u;refine(Rs.xV hp (vM hL L) (Nat.le_refl _) K).mono fun e W' ⟨he,E⟩=>?_
 subst he;have l:Below W.heap.size W W':=E.below (Nat.le_refl _) (fun _ _ e=>e);exact⟨_,rfl,_,_,_,[],_,[],C,trodAll_mk1 (shut_bool Tryz.underlying4 _),trodAll_cons_mk (Below.trod wU δ (of_decide_eq_true δ) y l N) (trodAll_cons_mk (Below.trod wU δ (of_decide_eq_true δ) B l O) trodAll_mk0),rfl,l.frame _,fun h=>by cases h⟩
def BJ:Array Value := #[.agg #[.int .i64 0,.string { data := #[] },.slice none 0 0,.slice none 0 0,.slice none 0 0,.slice none 0 0,.slice none 0 0,.slice none 0 0,.slice none 0 0,.slice none 0 0,.slice none 0 0,.slice none 0 0,.slice none 0 0,.slice none 0 0],.int .i64 0]
noncomputable abbrev wl (os:Os):World:=(kz.mG os).forCall (fun _ _=>0) ⟨#[],BJ,[]⟩
theorem oX(os:Os):laidMetH Tryz.prog Rows.placeStillUptoRow.laid (wl os).memory:=kz.oX os
theorem reads(os:Os){H:Type}(enc:TypeId×Value→H):∃x,DataW.whole enc Tryz.prog (wl os).memory Tryz.f4.params.toList Rows.placeStillSpec.vars false BJ.toList 8=some x∧Rows.uptoSmall H (x.1++x.2.1)=true:=
 ⟨([.agg [.lit (.int .i64 0),.lit (.string []),.nil,.nil,.nil,.nil,.nil,.nil,.nil,.nil,.nil,.nil,.nil,.nil],.lit (.int .i64 0)],[],[]),δ,δ⟩
theorem lifted(os:Os)(h:os.Started)(H:Type)(enc:TypeId×Value→H)(F:Stop.Interp):
 ReturnsInHanded {} Tryz.checked os 4 .any ((Rows.OpenSpec.upto Rows.placeStillSpec).preRow enc Tryz.prog Tryz.f4 Rows.placeStillUptoRow.domain false Rows.placeStillUptoRow.laid) (((Rows.OpenSpec.upto Rows.placeStillSpec).at F).post enc Tryz.prog Tryz.f4 false true false false):=by
 obtain⟨x,y,w⟩:=reads os enc;refine returnsInHanded_of_row (C:=Tryz.checked) (s:=Rows.OpenSpec.upto Rows.placeStillSpec) own h δ Tryz.func4
  (witness_row_atRef (enc:=enc) (C:=Tryz.checked) false (kz.mG os) BJ rfl (kz.BX os) (kz.BY os) δ
   (OpenSpec.preRow_of_cond 8 y δ (fun k hk=>by cases hk;exact w) δ (oX os))) ?_
 intro W base args l q d g v B D I u j E
 first|exact ov H enc W base args l q d g v u j (E _ rfl)|exact ov H enc W base args l q d g v u j (D _ rfl)|exact ov H enc W base args l q d g v u j (B _ rfl)
theorem G5:Rows.PlaceStillUptoSaid:=
 OpenClaim.holds_of_cond 4 Tryz.f4 rfl rfl rfl rfl rfl rfl rfl ⟨rfl,rfl,rfl,rfl,rfl⟩ rfl rfl rfl rfl rfl δ Tryz.func4 placeStillUptoFacts.closed
  (of_decide_eq_true δ) (by unfold Func.isWrapper;first|(rw[if_pos (by decide +kernel)];kernel_rfl)|(rw[if_neg (by decide +kernel)];exact⟨rfl,rfl⟩))
  (fun os d H enc _ F=>by rw[OpenClaim.pre_eq_preRow];exact lifted os d H enc F)
theorem plain(f:FuncId)(fn:Func)(h:Tryz.pinned.checked.prog.funcNamed "bulkhead/bulkheadlaw11.PlaceStill" = some f)(g:Tryz.pinned.checked.prog.funcs[f]?=some fn):
 true=Tryz.pinned.checked.prog.looks []∧∀(j:Nat) t,fn.params[j]?=some t→Tryz.pinned.checked.prog.wantsStandIn t=false:=by
 obtain rfl:f=4:=Option.some.inj ((show Tryz.prog.funcNamed "bulkhead/bulkheadlaw11.PlaceStill" = some 4 by kernel_rfl).symm.trans h) |>.symm;obtain rfl:fn=Tryz.f4:=(Option.some.inj (Tryz.func4.symm.trans g)).symm;refine⟨δ,fun j t d=>?_⟩;rw[Tryz.params4]at d;have l:j<2:=(Array.getElem?_eq_some_iff.1 d).1
 rcases(show j=0∨j=1 by omega)with rfl|rfl
 ·obtain rfl:33=t:=Option.some.inj d
  exact(show Tryz.pinned.checked.prog.wantsStandIn 33=false by kernel_rfl)
 ·obtain rfl:3=t:=Option.some.inj d
  exact(show Tryz.pinned.checked.prog.wantsStandIn 3=false by kernel_rfl)
theorem placeStill_holds:Rows.PlaceStillUptoCardSaid:=
 Claim7.holds_tied_plain_at .later [] _ _ _ _ G5 (fun _ h=>by cases h) δ (fun _ h=>by cases h) placeStillUpto_row_tie rfl ⟨rfl,rfl⟩ δ rfl plain δ
