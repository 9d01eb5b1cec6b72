import Derived.Test.YthobcefghkeddaaGreatDoorPl15
import Derived.Test.YthobcefghkeddaaGreatDoorNamedS
import Derived.Lib.LaidU8
import Derived.Deep.DeepWitnessRowRef
import Derived.Test.YthobcefghkeddaaGreatDoorCards
import Derived.Test.YthobcefghkeddaaGreatDoorTie
set_option maxRecDepth 100000
set_option linter.all false
set_option maxHeartbeats 4000000
namespace Go.Proofs.YthobcefghkeddaaGreatDoor
namespace Rs
open Go.RowKit Ck
variable {pg B:Nat} {w:World}
structure LrE where
 A:Option Addr
 n:Nat
 c:Nat
 im:Nat
 pg:Int
 k:Int
 e:Int
def vK(k e:Int):LrE:=⟨none,0,0,0,0,k,e⟩
def lrD(x:LrE):Sta where
 i j:=match j with|0=>x.im|1=>x.pg|2=>x.k|_=>x.e
 a _:=x.A
 n j:=match j with|0=>x.n|_=>x.c
 o _ := .tuple #[vM (.slice x.A x.n x.c) x.im x.pg,.int .i64 x.k,.int .i64 x.e]
def lrL(m:Nat):List Cl:=[.sl m m (m+1),.i .u64 (.x m),.i .i64 (.x (m+1))]
def EW(m td t0 t1 t2:Nat):Kn:={ KO:=[(t0,[(td,.one (.v m))],.ag (lrL m)),(t1,[(td,.one (.v m))],.one (.i .i64 (.x (m+2)))),(t2,[(td,.one (.v m))],.one (.i .i64 (.x (m+3))))] }
theorem C9{S:Sta}{κ:Kap}{P:Program}{ops:List Oper}{m g B C t2:Nat}(x:LrE)(I:((ops.filter fun o=>o.dst==some B).map (·.op))=[.extract (.tmp g) 0])(J:((ops.filter fun o=>o.dst==some C).map (·.op))=[.extract (.tmp g) 1])(K:((ops.filter fun o=>o.dst==some t2).map (·.op))=[.extract (.tmp g) 2])
 (v:S.o m=(lrD x).o 0)(D:SV.den S κ (.ag (lrL m))=vM (.slice x.A x.n x.c) x.im x.pg)(E:S.i (m+2)=x.k)(H:S.i (m+3)=x.e):gQ S κ P ops (EW m g B C t2):=by
 refine⟨(fun _ h=>by cases h),fun y l o d u a w q=>?_⟩
 rcases Ξ.1 l with rfl|l
 ·have j:a.eval (.tmp g)=(lrD x).o 0:=(q _ (ρ.2 rfl)).trans v
  exact gX (jZ I d u) j (by rw[D];rfl)
 rcases Ξ.1 l with rfl|l
 ·have j:a.eval (.tmp g)=(lrD x).o 0:=(q _ (ρ.2 rfl)).trans v
  exact gX (jZ J d u) j (by show _=some (Value.int .i64 (S.i (m+2)));rw[E];rfl)
 obtain rfl:=ρ.1 l;have j:a.eval (.tmp g)=(lrD x).o 0:=(q _ (ρ.2 rfl)).trans v;exact gX (jZ K d u) j (by show _=some (Value.int .i64 (S.i (m+3)));rw[H];rfl)
def LyR(P:aF)(ok:Bool)(pg:Nat)(x:LrE)(w:World):Prop:=
 match ok with
 | false=>x=vK (-1) 1
 | true=>match dQ P pg with
  | (none,n,e)=>x=vK n e
  | (some l,n,e)=>x.im=l.image∧x.pg=l.pages∧x.k=n∧x.e=e∧x.n=l.Q3.length∧wF w (.slice x.A x.n x.c) l.Q3
theorem LyR.keep{P:aF}{ok:Bool}{x:LrE}{w':World}(h:LyR P ok pg x w)(hk:Kz w w'):LyR P ok pg x w':=by
 unfold LyR at h⊢;split
 ·exact h
 ·simp only at h
  split
  ·rename_i e;rw[e]at h;exact h
  ·rename_i e
   rw[e]at h;obtain⟨d,g,j,l,q,u⟩:=h;exact⟨d,g,j,l,q,u.keep hk⟩
theorem og:∀(l:List Region) (S:PS) (out d:List Nat) (S':PS),fH S out l=.inr (d,S')→d.length=out.length+l.length
 | [],_,_,_,_,h=>by cases h;rfl
 | x::l,S,out,d,S',h=>by
  rw[fH]at h;split at h
  ·have:=og l _ _ _ _ h
   simp only[List.length_append,List.length_cons,List.length_nil]at this⊢;omega
  ·split at h
   ·have:=og l _ _ _ _ h
    simp only[List.length_append,List.length_cons,List.length_nil]at this⊢;omega
   ·cases h
theorem yN{P:aF}{l:Lay}{n e:Int}(h:dQ P pg=(some l,n,e)):l.Q3.length=P.Q3.length:=by
 unfold dQ at h;split at h
 ·cases h
 ·rename_i out S d
  split at h
  ·cases h
  ·cases h
   have:=og _ _ _ _ _ d
   simpa using this
theorem Ci.vars{q w:World}{P:aF}{ok:Bool}{pg:Nat}{v:Ending}(h:Ci q P ok pg v w)(E:P.Q3.length≤4194304):∃x,v=.returned ((lrD x).o 0)∧LyR P ok pg x w∧∀g o,x.A=some ⟨g,o,none⟩→0<x.n→q.heap.size≤g:=by
 have d:∀(k e:Int) g o,(vK k e).A=some ⟨g,o,none⟩→0<(vK k e).n→q.heap.size≤g:=fun k e g o h _=>by cases h
 obtain⟨h,_⟩:=h;unfold LyR
 cases ok with
 | false=>exact⟨vK (-1) 1,h,rfl,d _ _⟩
 | true =>
  simp only at h⊢;split at h
  ·rename_i n e j
   rw[j];exact⟨vK n e,h,rfl,d _ _⟩
  ·rename_i l n e j
   rw[j];obtain⟨u,C,y,I⟩:=h;have B:=AF y (by rw[yN j];exact E);obtain⟨A,c,rfl,_⟩:=id B;refine⟨⟨A,l.Q3.length,c,l.image,l.pages,n,e⟩,C,⟨rfl,rfl,rfl,rfl,rfl,B⟩,fun g o (D:A=some ⟨g,o,none⟩) H=>?_⟩;subst D;exact(y.lt g rfl).1
theorem rR{named:ByteArray→Bool}{flat:Nat→cK→Nat×Int×Int}{P:aF}(h:yw named flat P):BM P:=
 ⟨fun r g=>by obtain⟨_,_,_,b1,b2⟩:=h.Qk.Qe r g;exact⟨b1,b2⟩,fun x d=>⟨fQ (h.Q3.one x d).2.2.1,fun _=>fQ (h.Q3.one x d).2.2.2.1⟩⟩
theorem CD{v:ae}{P:aF}(h:bD B w v P)(u:iH B w)(l:B≤w.heap.size){ok:Bool}(j:ok=true↔nH (eF jg) aa P):
 Calls Tryz.prog 16 #[.agg (v.cells P).toArray] w fun y w'=>∃x,y=.returned ((lrD x).o 0)∧LyR P ok (pages aa P) x w'∧Kz w w'∧∀g o,x.A=some ⟨g,o,none⟩→0<x.n→w.heap.size≤g:=by
 refine(CE h l (ok:=ok) (pg:=pages aa P) (fun w' d=>?_) (fun w' d=>?_) (fun e=>rR (dH (j.1 e))) (fun e=>?_)).mono fun y w' C=>?_
 ·refine(yk uz (bD.kept h l d) (u.below (d.below (B:=B) l fun _ _ e=>e)) (by have:=d.size;omega)).mono fun e K ⟨⟨a,x,I,J⟩,hk⟩=>⟨⟨a,x,I,?_⟩,hk⟩
  rw[j];exact(uQ J).1
 ·exact qZ (bD.kept h l d) (by have:=d.size;omega)
 ·have:=(dH (j.1 e)).image
  omega
 ·obtain⟨x,D,E,H⟩:=C.vars (by obtain⟨_,_,_,_,q,_⟩:=h.Q3;unfold top at q;omega)
  exact⟨x,D,E,C.2,H⟩
theorem uH{S:Sta}{m:Nat}{d:Sta}(h:24≤m):Agr (lo 24) S (S.put m d):=(aQ _ m _).mono (AS h)
def zv(m:Nat):List Cl := .i .i64 (.x m) :: .s (.x m)::(List.range 12).map fun j =>.sl (m+j) (m+j) (m+12+j)
theorem sS{v:ae}{P:aF}(h:bD B w v P)(S:Sta)(κ:Kap):SV.den (S.put 40 (cE v P)) κ (.ag (zv 40))=.agg (v.cells P).toArray:=by
 rw[←lz h κ];rfl
theorem iH.kept{B':Nat}{w':World}(h:iH B w)(g:B≤w.heap.size)(hk:Kz w w')(d:B≤B'):iH B' w':=by
 have h:=h.below (hk.below (B:=B) g fun _ _ e=>e);exact⟨by have:=h.pos;omega,h.err,fun w' j=>h.scan w' (j.mono d)⟩
end Rs
namespace Rs
open Go.RowKit Ck
def elD(p u:Nat):Sta where
 i j:=match j with|0=>p|_=>u
def paF:Fr:=[(2,.one (.p 0 0)),(3,.one (.p 1 0))]
def paR:Fr:=(5,.one (.p 2 0))::(6,.one (.p 3 0))::paF
def paM:Mm:=[(0,ah),(1,lrL 24),(2,[.sl 48 49 50])]
def paX:SV := .ag [.i .u64 (.x 96),.i .u64 (.bin .sub .u64 (.bin .add .u64 (.x 96) (.x 97)) (.c 1))]
def paC:List (FuncId×List SV×SV):=[(61,[.ag [.sl 48 49 50],paX],.one (.b (.c true))),(62,[.ag [.sl 64 65 66],paX],.one (.b (.c false)))]
def rg0:Region:=⟨0,ByteArray.empty,0,false,0,false,false,0,false,ByteArray.empty⟩
def PaW(w0:World)(bg bt:Nat)(P:aF)(l:Lay)(eg:SlE)(k:Nat)(e:SlE)(w:World):Prop:=dB w0 bg (co P) eg w∧dB w0 bt (tak P l k) e w
theorem xr{B:Nat}{w:World}{v:ae}{P:aF}(h:bD B w v P)(hB:B≤w.heap.size)(W:nH (eF jg) aa P){l:Lay}(O:lY P l){x:LrE}(d2:x.im=l.image)(d3:x.pg=l.pages)(b5:x.n=l.Q3.length)(d4:wF w (.slice x.A x.n x.c) l.Q3):
 Calls Tryz.prog 21 #[.agg (v.cells P).toArray,vM (.slice x.A x.n x.c) x.im x.pg] w fun e w'=>e=.returned (.bool true)∧Kz w w':=by
 obtain⟨R,hR⟩:∃R:Ending→World→Prop,R=fun e w'=>e=.returned (.bool true)∧Kz w w':=⟨_,rfl⟩
 rw[←hR];have Z:=dH W;have hg:=rR Z;have eo:P.Q3.length≤2097152:=by obtain⟨_,_,_,_,O,_⟩:=h.Q3;exact O
 refine fnE ((cE v P).put 24 (lrD x)) (fun _=>(0,0)) [.ag ah,.ag (lrL 24)] Tryz.func21 Tryz.ntmps21 rfl (by rw[List.map_cons,bT h (aQ _ 24 _)];rfl) ψ H0 (fun _ h=>h.elim) trivial fun a hd hh=>?_
 refine b7 1 τ paF [(0,ah),(1,lrL 24)] 2 [] hPp δ hh fun κ3 a3 w3 n4 p3=>?_
 have a6:=p3.keep;refine sF 1 64 [.ag ah] (.ag [.sl 48 49 50]) 48 (fun d w4=>∃e:SlE,d=slD e∧∃L,e.n=L.length∧au w4 (.slice e.A e.n e.c) L∧(∀q,q<w3.heap.size→aJ w4 q (.slice e.A e.n e.c) L)∧dP L∧∀q,aW L q↔co P q) τ ((5,.one (.p 2 0))::paF) [(2,[.sl 48 49 50]),(0,ah),(1,lrL 24)] 3 δ n4 (fun w' b4=>?_) fun κ4 a4 w4 d0 wf ⟨X,di,L,l1,l2,l3,l4,l5⟩ cc n5 p4=>?_
 ·rw[List.map_cons,bT h (aQ _ 24 _)]
  have hk:=K3 a6 b4;refine(AP (bD.kept h hB hk) (by have:=hk.size;omega) hg fun r W=>?_).mono fun e cv ⟨u,l,y1,y2,y3,y4,y5,y6⟩=>?_
  ·obtain⟨b1,_,b2,_⟩:=Z.Qk.Qe r W
   exact⟨b1,b2⟩
  ·obtain⟨A',c',rfl,_⟩:=id y2
   exact⟨_,⟨⟨A',l.length,c'⟩,rfl,l,rfl,y2,fun q hq=>y3 q (by have:=b4.size;omega),y4,y5⟩,y1,y6⟩
 subst di;obtain⟨y1,y2,y3⟩:=p4.new.row n5.mem (r:=2) rfl ψ ψ;obtain⟨bg,bw⟩:∃b,b=(κ4 2).1:=⟨_,rfl⟩;rw[←bw]at y1 y3;have d9:κ4 2=(bg,0):=Prod.ext bw.symm y2;refine fb (CL:={}) τ paR ((3,[.l (.slice none 0 0)])::paM) 4 [] δ n5 dV fun κ5 a5 w5 n6 p5=>?_
 obtain⟨t1,t2,t3⟩:=p5.new.row n6.mem (r:=3) rfl ψ ψ;obtain⟨H,bx⟩:∃b,b=(κ5 3).1:=⟨_,rfl⟩;rw[←bx]at t1 t3;have eb:κ5 3=(H,0):=Prod.ext bx.symm t2;have ea:κ5 2=(bg,0):=(p5.upto 2 ψ).trans d9;have ey:bg<H:=by have:=y1.lt;omega
 refine b7 3 τ ((7,.one (.i .i64 (.c 0)))::paR) paM 4 [] hPp δ (n6.more [(.cmp .neq (.ln 24) (.ln 2),false)] [] [] (fa1 (by show((x.n:Int)!=(P.Q3.length:Int))=false;rw[b5,O.len];simp)) (fun y hy=>by cases hy) (fun i x hx=>by cases hx)) fun κ7 a7 w7 n9 p7=>?_
 have ec:κ7 2=(bg,0):=(p7.upto 2 ψ).trans ea;have bd:κ7 3=(H,0):=(p7.upto 3 ψ).trans eb;have cd:Kz wf w7:=K3 (K3 cc p5.keep) p7.keep;have bc:Kz w4 w7:=K3 p5.keep p7.keep;have b3:Kz w w7:=K3 (K3 a6 p4.keep) bc;have cf:∀r,r<2→(κ7 r).1<w3.heap.size:=fun r W=>by
  have e7:κ7 r=κ3 r:=(p7.upto r (by show r<4;omega)).trans ((p5.upto r (by show r<3;omega)).trans (p4.upto r (by show r<2;omega)));rw[e7]
  match r,W with
  | 0,_=>exact(n4.mem.get 0 _ rfl).1.1
  | 1,_=>exact(n4.mem.get 1 _ rfl).1.1
 have d1:w.heap.size≤H:=by have:=a6.size;have:=p4.keep.size;omega
 have e6:w3.heap.size≤w7.heap.size:=(K3 p4.keep bc).size;have cu:Row w7 H [.slice none 0 0]:=t1.keep p7.keep fun h=>h
 have dt:∀g o,X.A=some ⟨g,o,none⟩→0<X.n→g≠H:=fun g o hg hn=>by
  obtain⟨A,c,e1,_,_,e2⟩:=l2;obtain⟨g',e3,e4,_⟩:=e2 χ;simp only[Value.slice.injEq]at e1;have:=e1.1;rw[hg,e3]at this
  cases this
  have:=cc.size;omega
 have i0:PaW w3 bg H P l X 0 ⟨none,0,0⟩ w7:=⟨⟨y1.keep bc fun h=>h,L,l1,l2.keep cd,fun q hq=>aJ.keep (l3 q hq) (cd.mono fun _ _ h=>h.elim),l4,l5⟩,dB.nil cu fun q=>zJ q⟩;have cj:=n9.mute (Gh.of (fun g=>g=H) (fun _=>True) (fun _ _ _ _=>trivial)) paM [] δ (fun r m hm e=>by
  have e:(κ7 r).1=H:=e
  rcases Ξ.1 (gI hm)with e'|e'
  ·cases e';have:=cf 0 ψ;omega
  rcases Ξ.1 e' with e'|e'
  ·cases e';have:=cf 1 ψ;omega
  ·cases ρ.1 e';rw[ec]at e;have e:bg=H:=e;omega) (fun g hg=>by rw[show g=H from hg];exact cu.lt) trivial
 have dk:a7.defers=[]:=p7.agree.defers.trans (p5.agree.defers.trans (p4.agree.defers.trans (p3.agree.defers.trans hd)));refine az (Da (fun n I J idx h0 hi h1 hb h2 hq=>qv n I J idx h0 hi h1 hb h2 hq) [] cj.bare rfl (P.Q3.length+1) 64 7 .i64 (fun k=>(k:Int)) 1 (.cmp .leq (.x 64) (.ln 2)) paR τ slD (fun k e w=>PaW w3 bg H P l X k e w) (fun _ _ _ _ hk h=>⟨h.1.keep hk,h.2.keep hk⟩) ⟨none,0,0⟩ hPp δ (fun j d hj=>?_) (fun j hj=>by rw[Go.IntWalk.i64_in _ χ];omega) (fun j hj=>by show((j:Int)-(0:Nat)).toNat / (1:Int).toNat=j;simp) i0 (cj.has.re ⟨rfl,rfl,rfl,rfl,rfl,trivial⟩) (fun k e a8 w8 hk ac hA hK=>?_) fun e a8 w8 ac hA hK=>?_)
 ·show decide ((j:Int)≤(P.Q3.length:Int))=decide (j<P.Q3.length+1)
  by_cases c:j≤P.Q3.length
  ·rw[decide_eq_true χ,decide_eq_true χ]
  ·rw[decide_eq_false χ,decide_eq_false χ]
 ·obtain⟨hG,hE⟩:=(show PaW w3 bg H P l X k e w8 from ac.gh)
  have Y:aD (fun g=>g=H) w7 w8:=hK;have dc:∀g,g=H→w.heap.size≤g:=fun g hg=>χ
  have a2:Kz w w8:=aS b3 Y dc;obtain⟨r1,L',r2,r3,r4,r5,r6⟩:=id hE;obtain⟨bs,gL,eu,c7,ew,c8,c9⟩:=id hG
  -- what is asked of: its place and its size
  obtain⟨c3,V⟩:∃p,(iB P l)[k]?=some p:=by
   rcases Ψ k P.Q3.length with c|c
   ·obtain⟨y,hy⟩:=ge c
    obtain⟨p,hp⟩:=ge (show k<l.Q3.length by rw[O.len];exact c);exact⟨_,tG O.len hy hp⟩
   ·obtain rfl:k=P.Q3.length:=χ
    exact⟨_,oo O.len⟩
  obtain⟨D,C⟩:=c3;obtain⟨s0,s1,s2,s3⟩:=O.one k D C V;have ad:=ac.row 3 [.sl 64 65 66] (by rw[bd]) (by rw[bd];exact r1);obtain⟨J,hJ⟩:∃J:Act→World→Prop,J=fun a' w'=>∃(y:Region) (p:Nat) (κ':Kap),Now (((((((cE v P).put 24 (lrD x)).put 48 (slD X)).put 64 ((slD e).cnt k)).put 72 (ly y)).put 80 (elD p 0)).put 96 (elD D C)) κ' 105 Tryz.prog {} H0 ⟨(8,.one (.i .u64 (.x 96)))::(9,.one (.i .u64 (.x 97)))::fx 64 7 paR,[(0,ah),(1,lrL 24),(2,[.sl 48 49 50]),(3,[.sl 64 65 66])],6,[]⟩ a' w'∧cU 4 κ7 κ'∧Kz w8 w'∧aE τ a8 a':=⟨_,rfl⟩
  refine aY (CY 4 J ?_ fun eq ez hj=>?_)
  ·rw[hJ]
   rcases Ψ k P.Q3.length with c|c
   ·obtain⟨y,hy⟩:=ge c
    obtain⟨p,hp⟩:=ge (show k<l.Q3.length by rw[O.len];exact c);have E:=tG O.len hy hp;rw[V]at E;simp only[Option.some.injEq,Prod.mk.injEq]at E;obtain⟨rfl,rfl⟩:=E;obtain⟨f1,f2⟩:=O.fixed k _ y hy hp;obtain⟨g,o,h1,h2,h3⟩:=cW h.Q3 (aI _ _ _) hB a2 hy;obtain⟨A,c',e1,_,_,e2⟩:=id d4;obtain⟨gl,e3,b0,hm⟩:=e2 (by have:=O.len;omega);simp only[Value.slice.injEq]at e1;obtain⟨cy,eg,_,be⟩:=(((ad.lay 72 (ly y) δ).lay 80 (elD D 0) δ).lay 96 (elD D y.size) δ).base g (o+k*10) (nK 72) ⟨h2,id⟩ h3.1 [(2,10,.x 64,2,4)] δ (fun z hz=>by
     obtain rfl:=ρ.1 hz;refine⟨?_,?_,g,o,h1,?_⟩
     ·show(0:Int)≤(k:Int);omega
     ·show(k:Int)<(P.Q3.length:Int);omega
     ·show(g,o+k*10)=(g,o+(k:Int).toNat*10)
      congr 1)
    obtain⟨bl,ei,_,al⟩:=be.base gl k [.i .u64 (.x 80)] ⟨Θ b0 a2.size,id⟩ (fun j v hj=>by
     match j,hj with
     | 0,hj =>
      obtain rfl:=ι hj;exact(a2.cell (p:=⟨_,_,none⟩) b0 id).trans (hm k D hp)) [(24,1,.x 64,24,5)] δ (fun z hz=>by
     obtain rfl:=ρ.1 hz;refine⟨?_,?_,gl,0,e1.1.trans e3,?_⟩
     ·show(0:Int)≤(k:Int);omega
     ·show(k:Int)<((x.n:Nat):Int);rw[b5,O.len];omega
     ·show(gl,k)=(gl,0+(k:Int).toNat*1)
      congr 1
      omega)
    have a0:y.big=true→decide ((D:Int).tmod 2097152>0)=false:=fun e=>by
     rw[e]at f2;have f2:D%2097152=0:=f2;rw[Int.tmod_eq_emod_of_nonneg χ];exact decide_eq_false χ
    obtain⟨FA,hc,hF⟩:∃FA:List (BE×Bool),(FA=[(.cmp .lss (.x 64) (.ln 2),true),(.x 72,true),(.cmp .neq (.x 80) (.x 74),false),(.x 73,true),(.cmp .gtr (.bin .rem .u64 (.x 80) (.c 2097152)) (.c 0),false)]∨FA=[(.cmp .lss (.x 64) (.ln 2),true),(.x 72,true),(.cmp .neq (.x 80) (.x 74),false),(.x 73,false)]∨FA=[(.cmp .lss (.x 64) (.ln 2),true),(.x 72,false),(.x 73,true),(.cmp .gtr (.bin .rem .u64 (.x 80) (.c 2097152)) (.c 0),false)]∨FA=[(.cmp .lss (.x 64) (.ln 2),true),(.x 72,false),(.x 73,false)])∧∀z∈FA,z.1.den (((((((cE v P).put 24 (lrD x)).put 48 (slD X)).put 64 ((slD e).cnt k)).put 72 (ly y)).put 80 (elD D 0)).put 96 (elD D y.size))=z.2:=by
     have af:decide ((k:Int)<(P.Q3.length:Int))=true:=decide_eq_true χ;have bz:y.fixed=true→((D:Int)!=(y.Q7:Int))=false:=fun e=>by rw[f1 e];simp
     cases hf:y.fixed<;>cases hb:y.big
     ·exact⟨_,.inr (.inr (.inr rfl)),fac af (fac hf (fac hb dg))⟩
     ·exact⟨_,.inr (.inr (.inl rfl)),fac af (fac hf (fac hb (fac (a0 hb) dg)))⟩
     ·exact⟨_,.inr (.inl rfl),fac af (fac hf (fac (bz hf) (fac hb dg)))⟩
     ·exact⟨_,.inl rfl,fac af (fac hf (fac (bz hf) (fac hb (fac (a0 hb) dg))))⟩
    refine b7 4 τ ((8,.one (.i .u64 (.x 80)))::(9,.one (.i .u64 (.x 73)))::fx 64 7 paR) [(0,ah),(1,lrL 24),(2,[.sl 48 49 50]),(3,[.sl 64 65 66])] 6 [] hPp (by rcases hc with rfl|rfl|rfl|rfl<;>kernel_rfl) (al.more FA [] [] hF (fun y hy=>by cases hy) (fun i x hx=>by cases hx)) fun bm bo cw K U=>cM rfl ⟨rfl,y,D,bm,⟨K.has.re ⟨rfl,rfl,rfl,rfl,rfl,rfl,rfl,trivial⟩,K.mem,Rs.noC _ _ _ _ _,K.tb,K.gh⟩,fun r (W:r<4)=>(U.upto r (by show r<6;omega)).trans ((ei r (by show r<5;omega)).trans (eg r W)),U.keep,U.agree⟩
   ·obtain rfl:k=P.Q3.length:=χ
    have E:=oo O.len;rw[V]at E;simp only[Option.some.injEq,Prod.mk.injEq]at E;obtain⟨rfl,rfl⟩:=E;have Q:=(((ad.lay 72 (ly rg0) δ).lay 80 (elD 0 0) δ).lay 96 (elD l.image (l.pages*4096)) δ).more [(.cmp .lss (.x 64) (.ln 2),false)] [] [] (fa1 (by show decide ((P.Q3.length:Int)<(P.Q3.length:Int))=false;exact decide_eq_false χ)) (fun y hy=>by cases hy) (fun i x hx=>by cases hx);have cm:Now _ κ7 105 Tryz.prog { FA:=[(.cmp .lss (.x 64) (.ln 2),false)] } H0 ⟨fx 64 7 paR,(3,[.sl 64 65 66])::paM,6,[]⟩ a8 w8:=⟨Q.has,Q.mem,Q.ctx,Q.tb,Q.gh⟩;refine b7 4 τ ((8,.one (.i .u64 (.x 24)))::(9,.one (.i .u64 (.bin .mul .u64 (.cv .u64 (.x 25)) (.c 4096))))::fx 64 7 paR) [(0,ah),(1,lrL 24),(2,[.sl 48 49 50]),(3,[.sl 64 65 66])] 6 [] hPp δ cm fun bm bo cw K U=>cM rfl ⟨rfl,rg0,0,bm,⟨K.has.re ⟨congrArg (Value.int .u64) ?_,congrArg (Value.int .u64) ?_,rfl,rfl,rfl,rfl,rfl,trivial⟩,K.mem,Rs.noC _ _ _ _ _,K.tb,K.gh⟩,fun r (W:r<4)=>U.upto r (by show r<6;omega),U.keep,U.agree⟩
    ·show(x.im:Int)=(l.image:Int)
     rw[d2]
    ·show IntKind.u64.wrap (IntKind.u64.wrap x.pg*4096)=((l.pages*4096:Nat):Int)
     rw[d3,bq (x:=(l.pages:Int)) χ,bq χ];omega
  ·rw[hJ]at hj
   obtain⟨y,p,e8,Q,ee,d8,c5⟩:=hj;clear hJ ac ad;refine b7 1 τ ((8,.one (.i .u64 (.x 96)))::(9,.one (.i .u64 (.x 97)))::(10,.one (.p 6 0))::fx 64 7 paR) [(0,ah),(1,lrL 24),(2,[.sl 48 49 50]),(3,[.sl 64 65 66]),(6,[.i .u64 (.x 96),.i .u64 (.bin .sub .u64 (.bin .add .u64 (.x 96) (.x 97)) (.c 1))])] 7 [] hPp δ Q fun cy er e5 be bf=>?_
   have e9:∀κ,SV.den (((((((cE v P).put 24 (lrD x)).put 48 (slD X)).put 64 ((slD e).cnt k)).put 72 (ly y)).put 80 (elD p 0)).put 96 (elD D C)) κ paX=.agg #[.int .u64 D,.int .u64 ((D+C-1:Nat):Int)]:=fun κ=>by
    show Value.agg #[.int .u64 (D:Int),.int .u64 (IntKind.u64.wrap (IntKind.u64.wrap ((D:Int)+(C:Int))-1))]=_;rw[bq (x:=(D:Int)+C) χ,bq χ,show((D:Int)+C-1)=((D+C-1:Nat):Int) by omega]
   have a1:=K3 d8 bf.keep;have b6:∀r,r<4→cy r=κ7 r:=fun r W=>(bf.upto r (by show r<6;omega)).trans (ee r W)
   refine b7 2 τ ((10,.one (.p 6 0))::fx 64 7 paR) [(3,[.sl 64 65 66]),(6,[.i .u64 (.x 96),.i .u64 (.bin .sub .u64 (.bin .add .u64 (.x 96) (.x 97)) (.c 1))])] 7 [] hPp δ (be.more [(.cmp .gtr (.bin .rem .u64 (.x 96) (.c 4096)) (.c 0),false),(.cmp .eql (.x 97) (.c 0),false)] paC [] (yZ (by
    show decide ((D:Int).tmod 4096>0)=false;rw[Int.tmod_eq_emod_of_nonneg χ];exact decide_eq_false χ) (by
    show((C:Int)==0)=false;simp;omega)) (fun z hz w' hw=>by
    have hK:=K3 a1 hw
    rcases Ξ.1 hz with rfl|hz
    ·have:=pI (au.box (c7.keep hK) (bs.keep hK fun h=>h)) c8.ok D (D+C-1) (by unfold lim;omega) (by unfold lim;omega) (bs.keep hK fun h=>h).lt
     rw[gY.2 fun q q1 q2=>(c9 q).2 (s3 q q1 χ)]at this;show Calls Tryz.prog 61 #[.agg #[.slice X.A X.n X.c],SV.den _ _ paX] w' _;rw[e9];exact this
    ·obtain rfl:=ρ.1 hz
     have:=rt (r3.keep hK) r5.ok (x:=(D,D+C-1)) (by show D<lim;unfold lim;omega);show Calls Tryz.prog 62 #[.agg #[.slice e.A e.n e.c],SV.den _ _ paX] w' _;rw[e9];refine this.mono fun en cv ⟨⟨bb,q1,q2⟩,q3⟩=>⟨?_,q3⟩
     have:bb=false:=by
      cases bb with
      | false=>rfl
      | true =>
       obtain⟨q,z1,z2,z3⟩:=q2.1 rfl;have z2:q≤D+C-1:=z2;exact absurd ((r6 q).1 z3) (O.fresh V q z1 χ).2
     rw[q1,this];rfl) (fun i x hx=>by cases hx)) fun bl es ej al an=>?_
   have N:=K3 a1 an.keep;have ca:bl 3=(H,0):=((an.upto 3 ψ).trans (b6 3 ψ)).trans bd;have cx:w3.heap.size≤ej.heap.size:=by have:=Y.size;have:=N.size;omega
   refine EB 2 63 3 (.ag [.sl 64 65 66]) paX (fx 64 7 paR) (tak P l (k+1)) w3 H δ al (fun _ h=>h) ca ⟨_,r1.keep N fun h=>h⟩ cx (fun w' hw=>?_) fun bo cw bp c6 cb c4=>cM rfl ?_
   ·rw[e9]
    refine(ni (x:=(D,D+C-1)) (r3.keep (K3 N hw)) r5 ⟨by show D<lim;unfold lim;omega,by show D+C-1<lim;unfold lim;omega,fun _=>⟨s1,by
     have hs:C%4096=0:=by
      rcases iA O.len V with⟨y',_,d7,_,rfl⟩|⟨_,_,rfl⟩
      ·exact(hg.reg y' (γ d7)).1
      ·omega
     show(D+C-1+1)%4096=0;omega,by show D+C-1<4294967296;omega⟩⟩).mono fun e2 cv ⟨u2,ed,z1,z2,z3,z4,z5,z6⟩=>⟨u2,ed,z1,z2,z3,z4,fun q=>(z5 q).trans ?_,z6⟩
    show aW L' q∨(D≤q∧q≤D+C-1)↔tak P l (k+1) q;rw[zK V,←r6];constructor
    ·rintro(h|h)
     ·exact .inl h
     ·exact .inr χ
    ·rintro(h|h)
     ·exact .inl h
     ·exact .inr χ
   ·obtain⟨e',ds⟩:=c6.e
    refine⟨e',bl,⟨(hG.keep N).other cb (fun e=>by have e:bg=H:=e;omega) fun g o hg hn=>dt g o hg hn,ds⟩,fun r (W:r<4)=>(an.upto r (by show r<7;omega)).trans (b6 r W),bp.re ⟨rfl,rfl,rfl,rfl,rfl,trivial⟩,(((hA.trans c5 fun _ h=>h).trans bf.agree fun _ h=>h).trans an.agree fun _ h=>h).trans ⟨bp.size.trans al.has.size.symm,c4,fun _ h=>by cases h⟩ fun _ h=>h,(Y.trans (K_T N) fun _ _ h=>h).trans cb fun _ _ h=>h⟩
 ·refine dU 2 τ [(4,.one (.b (.c true)))] [] 4 [] hPp δ ac fun κ8 a9 w9 ad cp=>?_
  refine fj 4 rfl ad.has rfl (cp.agree.defers.trans (hA.defers.trans dk)) ?_;rw[hR];have Y:aD (fun g=>g=H) w7 w8:=hK;have cs:aD (fun g=>g=H) w8 w9:=cp.keep;exact⟨rfl,aS b3 (Y.trans cs fun _ _ h=>h) fun g hg=>by rw[show g=H from hg];exact d1⟩
end Rs
section
open Go.RowKit Ck
end
namespace Rs
open Go.RowKit Go.IntWalk Ck
theorem AT{P:Program}{ops:Array Oper}{Q:Exit→Act→World→Prop}{l m:List Oper}{a:Act}{w:World}(n:Nat)(h:wpList P ops Q (l.take n++(l.drop n++m)) a w):wpList P ops Q (l++m) a w:=by
 rw[←List.append_assoc,List.take_append_drop]at h;exact h
variable {W:World} {b k:Nat}
theorem pQ{o:Nat}{cs:Array Value}{t:TypeId}{vs:List Value}(h:W.heap[b]?=some (.cells cs t (0,0)))(e:(cs.toList.drop o).take vs.length=vs):aL W b o vs:=fun j v d=>by
 have g:=(ο.1 d).1;refine ji h ?_;rw[←e,List.getElem?_take_of_lt g,List.getElem?_drop,Array.getElem?_toList]at d;exact d
theorem uq{α:Type}{R:World→Nat→Nat→α→Prop}{x:α}(g:b<W.heap.size)(h:R W b 0 x):aM W.heap.size k R W (.slice (some ⟨b,0,none⟩) 1 1) [x]:=
 ⟨_,1,rfl,Γ 1,(by decide:1≤top),fun _=>⟨b,0,rfl,g,fun i y d=>by
  match i,d with
  | 0,d =>
   obtain rfl:=ι d;rw[Nat.zero_mul];exact h⟩⟩
theorem iR{α:Type}{B:Nat}{R:World→Nat→Nat→α→Prop}:aM B k R W (.slice none 0 0) ([]:List α):=⟨none,0,rfl,Γ _,(by decide:0≤top),fun h=>absurd h (Nat.lt_irrefl 0)⟩
theorem gj{w:World}{o x:Obj}(h:w.heap[k]?=some x):(w.alloc o).heap[k]?=some x:=(((aD.refl (fun _=>False) w).alloc o).block k (ϱ.1 h).1 id).trans h
theorem pS{w:World}{o:Obj}(h:k=w.heap.size):(w.alloc o).heap[k]?=some o:=by subst h;exact heap_alloc_new _ _
theorem lV(w:World)(o:Obj):(w.alloc o).heap.size=w.heap.size+1:=ξ
theorem al5(w:World)(d g h j l:Obj):∃W,W=((((w.alloc d).alloc g).alloc h).alloc j).alloc l∧Kz w W∧W.heap.size=w.heap.size+5∧W.heap[w.heap.size]?=some d∧W.heap[w.heap.size+1]?=some g∧W.heap[w.heap.size+1+1]?=some h∧W.heap[w.heap.size+1+1+1]?=some j∧W.heap[w.heap.size+1+1+1+1]?=some l:=by
 refine⟨_,rfl,(((((aD.refl _ _).alloc _).alloc _).alloc _).alloc _).alloc _,?_,?_,?_,?_,?_,?_⟩
 ·simp only[lV]
 ·exact gj (gj (gj (gj (pS rfl))))
 ·exact gj (gj (gj (pS (by simp only[lV]))))
 ·exact gj (gj (pS (by simp only[lV])))
 ·exact gj (pS (by simp only[lV]))
 ·exact pS (by simp only[lV])
def D5(b:Nat):Sta where
 o j:=match j with|0 =>.slice (some ⟨b+1,0,none⟩) 1 1|1 =>.slice (some ⟨b+1+1,0,none⟩) 2 2|2 =>.slice (some ⟨b+1+1+1,0,none⟩) 1 1|_ =>.slice (some ⟨b+1+1+1+1,0,none⟩) 1 1
def smZ:Cl := .l (.slice none 0 0)
def smC:List Cl:=[.i .i64 (.c 0),.s (.c ⟨#[]⟩),.v 0,smZ,.v 1,smZ,smZ,smZ,smZ,.v 2,smZ,.v 3,smZ,smZ]
def smV(b:Nat):ae:=⟨.slice (some ⟨b+1,0,none⟩) 1 1,.slice none 0 0,.slice (some ⟨b+1+1,0,none⟩) 2 2,.slice none 0 0,.slice none 0 0,.slice none 0 0,.slice none 0 0,.slice (some ⟨b+1+1+1,0,none⟩) 1 1,.slice none 0 0,.slice (some ⟨b+1+1+1+1,0,none⟩) 1 1,.slice none 0 0,.slice none 0 0⟩
theorem rE(x:UInt8):aV ⟨#[x]⟩:=by unfold aV;show(1:Nat)≤_;decide
theorem Cn:gk 0:=⟨ψ,ψ⟩
theorem Eb:0<lim:=ψ
theorem uZ:aV ByteArray.empty:=by unfold aV;decide
structure BK (sz:Nat) (W:World) (b:Nat):Prop where
 lt:b+1+1+1+1<W.heap.size
 Qe:aL W (b+1) 0 (Ck.Ram.cells ⟨0,65536,40960⟩)
 regA:aL W (b+1+1) 0 (smA sz).cells
 regB:aL W (b+1+1) 10 smB.cells
 plan:aL W (b+1+1+1) 0 [.int .i64 0,.string ⟨#[112]⟩,.int .u64 1,.slice none 0 0]
 pick:aL W (b+1+1+1+1) 0 (Ck.iq.cells ⟨0,⟨#[112]⟩⟩)
 row:∃cs E0,W.heap[b+1+1]?=some (.cells cs E0 (0,0))
theorem BK.Q3{sz:Nat}{W:World}{b:Nat}(h:BK sz W b)(g:sz<lim):aM W.heap.size 10 lX W (.slice (some ⟨b+1+1,0,none⟩) 2 2) [smA sz,smB]:=by
 have:=h.lt;refine⟨_,2,rfl,Γ 2,(by decide:2≤top),fun _=>⟨_,0,rfl,χ,fun i y d=>?_⟩⟩
 match i,d with
 | 0,d =>
  obtain rfl:=ι d;exact⟨h.regA,Cn,g,Eb,Eb,rE _,uZ⟩
 | 1,d =>
  obtain rfl:=ι d;exact⟨h.regB,⟨ψ,ψ⟩,ψ,ψ,ψ,rE _,uZ⟩
theorem BK.QU{sz:Nat}(h:BK sz W b)(d:sz<lim):bD W.heap.size W (smV b) (smP sz smQ):=by
 have:=h.lt;exact⟨uq χ ⟨h.Qe,⟨ψ,ψ⟩,ψ,ψ⟩,iR,h.Q3 d,iR,iR,iR,iR,uq χ ⟨_,h.plan,iR,⟨ψ,ψ⟩,ψ,rE _⟩,iR,uq χ ⟨h.pick,⟨ψ,ψ⟩,rE _⟩,iR,iR,Cn,uZ⟩
theorem xf(w:World):Calls Tryz.prog 17 #[] w fun e w'=>∃b,e=.returned (.agg (ae.cells (smV b) (smP 8192 smQ)).toArray)∧w.heap.size≤b∧Kz w w'∧BK 8192 w' b:=by
 go_enter Tryz.func17,Tryz.ntmps17
 go_wp2
 generalize hc0 : #[Value.int IntKind.i64 0,Value.string { data := #[] },Value.slice (some { block:=w.heap.size+1,off:=0 }) 1 1,Value.slice none 0 0,Value.slice (some { block:=w.heap.size+1+1,off:=0 }) 2 2,Value.slice none 0 0,Value.slice none 0 0,Value.slice none 0 0,Value.slice none 0 0,Value.slice (some { block:=w.heap.size+1+1+1,off:=0 }) 1 1,Value.slice none 0 0,Value.slice (some { block:=w.heap.size+1+1+1+1,off:=0 }) 1 1,Value.slice none 0 0,Value.slice none 0 0]=c0
 generalize hc1 : #[Value.int IntKind.i64 0,Value.int IntKind.u64 65536,Value.int IntKind.u64 40960]=c1
 generalize hc2 : #[Value.int IntKind.i64 0,Value.string { data := #[97] },Value.int IntKind.u64 8192,Value.bool false,Value.int IntKind.u64 0,Value.bool false,Value.bool false,Value.int IntKind.u64 0,Value.bool false,Value.string { data := #[] },Value.int IntKind.i64 0,Value.string { data := #[98] },Value.int IntKind.u64 12288,Value.bool true,Value.int IntKind.u64 65536,Value.bool false,Value.bool false,Value.int IntKind.u64 0,Value.bool false,Value.string { data := #[] }]=c2
 generalize hc3 : #[Value.int IntKind.i64 0,Value.string { data := #[112] },Value.int IntKind.u64 1,Value.slice none 0 0]=c3
 generalize hc4 : #[Value.int IntKind.i64 0,Value.string { data := #[112] }]=c4
 obtain⟨W,q,hk,H,x,y,h,B,C⟩:=al5 w (.cells c0 33) (.cells c1 91) (.cells c2 53) (.cells c3 68) (.cells c4 47);rw[←q];clear q;refine oK (S:=D5 w.heap.size) (κ:=fun _=>(w.heap.size,0)) (N:=11) (F:=[(0,.one (.p 0 0))]) (M:=[(0,smC)]) (v := .ag smC) (t:=0) (r:=0) (E:=33) rfl ⟨rfl,fun t u g=>?_⟩ rfl δ ?_ rfl ?_
 ·rw[ba]at g
  split at g
  ·rename_i e;subst e;obtain rfl:=ι g;rfl
  ·cases g
 ·intro r l d
  rw[cL]at d;split at d
  ·rename_i e;subst e;obtain rfl:=ι d
   intro j c D;refine ji x ?_;subst hc0;have:(smC.map (Cl.den (D5 w.heap.size) fun _=>(w.heap.size,0)))[j]?=some (c.den (D5 w.heap.size) fun _=>(w.heap.size,0)):=by rw[List.getElem?_map,D];rfl
   show _[0+j]?=_;rw[Nat.zero_add,←Array.getElem?_toList];exact this
  ·cases d
 ·refine⟨w.heap.size,rfl,Γ _,hk,?_⟩
  subst hc1 hc2 hc3 hc4;exact⟨χ,pQ y rfl,pQ h rfl,pQ h rfl,pQ B rfl,pQ C rfl,_,_,h⟩
end Rs
namespace Ck
variable {sz:Nat} {st:List iq}
theorem D6(q:Nat):co (smP sz st) q↔65536≤q∧q<106496:=by
 unfold co rng;constructor
 ·rintro⟨r,h,d,g,j⟩
  obtain rfl:=ρ.1 h;exact⟨d,g⟩
 ·exact fun⟨d,g⟩=>⟨_,ρ.2 rfl,d,g,χ⟩
theorem nQ(q:Nat):ay (smP sz st) q↔77824≤q∧q<106496:=by
 unfold ay;rw[D6];constructor
 ·rintro⟨⟨g,h⟩,j⟩
  have:=j smB (List.mem_cons_of_mem _ (ρ.2 rfl)) rfl;unfold rng at this;have:¬ (65536≤q∧q<65536+12288∧q<4294967296):=this;omega
 ·rintro⟨g,h⟩
  refine⟨χ,fun x d l=>?_⟩
  rcases Ξ.1 d with rfl|d
  ·cases l
  ·obtain rfl:=ρ.1 d
   unfold rng;show ¬ (65536≤q∧q<65536+12288∧_);omega
theorem D7:dQ (smP 8192 st) 1=(some ⟨[77824,65536],86016,1⟩, -1,0):=by
 have j:fit (ay (smP 8192 st)) 8192 4096=some 77824:=fE.2 ⟨ψ,⟨⟨19,rfl⟩,fun q g d=>(nQ q).2 χ⟩,fun q u ⟨_,h⟩=>by
  have:=(nQ q).1 (h q (Γ _) χ);omega⟩
 have l:fit (off (ay (smP 8192 st)) 77824 8192) (1*4096) 4096=some 86016:=fE.2 ⟨ψ,⟨⟨21,rfl⟩,fun q g d=>⟨(nQ q).2 χ,by unfold rng;omega⟩⟩,fun q u ⟨_,h⟩=>by
  have h:=h q (Γ _) χ;have g:=(nQ q).1 h.1;have d:=h.2;unfold rng at d;omega⟩
 have h:fH (ay (smP 8192 st)) [] (smP 8192 st).Q3=.inr ([77824,65536],off (ay (smP 8192 st)) 77824 8192):=by
  show fH _ [] [smA 8192,smB]=_;rw[fH,if_neg ψ];show(match fit (ay (smP 8192 st)) 8192 4096 with|some p=>fH (off (ay (smP 8192 st)) p 8192) ([]++[p]) [smB]|none =>.inl 0)=_;rw[j];rfl
 unfold dQ;rw[h];show(match fit (off (ay (smP 8192 st)) 77824 8192) (1*4096) 4096 with|none=>((none:Option Lay),(-1:Int),(110:Int))|some p=>(some (⟨[77824,65536],p,1⟩:Lay), -1,0))=_;rw[l]
theorem uV(h:lu (smP sz st) (smA sz)=[]):fo (smP sz st)=[]:=by
 have j:eY [⟨0,65536,40960⟩] 65536 (cz 65536 12288)=true:=by
  unfold eY;simp only[decide_eq_true_eq];intro p g d;exact⟨_,ρ.2 rfl,g,Δ d ψ⟩
 have l:kg (smP sz st) smB=[]:=by
  unfold kg;rw[if_pos (show smB.fixed=true from rfl)];show say (_||(_&&eY [⟨0,65536,40960⟩] 65536 (cz 65536 12288))) _ _=[];rw[j];rfl
 have d:lu (smP sz st) smB=[]:=by
  unfold lu;rw[l];rfl
 show(lu (smP sz st) (smA sz)++(lu (smP sz st) smB++[]))++dZ 3 (smP sz st).fixed=[];rw[h,d];rfl
theorem zO:nH (eF jg) aa (smP 8192 smQ):=by
 intro g d;simp only[dX,List.mem_cons,List.mem_nil_iff,or_false]at d
 rcases d with rfl|rfl|rfl|rfl|rfl|rfl|rfl|rfl
 ·show kX (eF jg) (smP 8192 smQ)=[];kernel_rfl
 ·show gZ (smP 8192 smQ)=[];kernel_rfl
 ·show vi (smP 8192 smQ)=[];kernel_rfl
 ·exact uV δ
 ·show lF (smP 8192 smQ)=[];kernel_rfl
 ·show uK (smP 8192 smQ)=[];kernel_rfl
 ·show kW (fun M y=>(aa M y).2) (smP 8192 smQ)=[];kernel_rfl
 ·show mO aa (smP 8192 smQ)=[];kernel_rfl
theorem zP(sz:Nat):pages aa (smP sz st)=1:=δ
end Ck
namespace Rs
open Go.RowKit Ck
theorem mM:∀(l:List Region) (S:PS) (out:List Nat) (i:Nat),fH S out l=.inl i→i<out.length+l.length
 | [],_,_,_,h=>by cases h
 | x::l,S,out,i,h=>by
  rw[fH]at h;split at h
  ·have:=mM l _ _ _ h
   simp only[List.length_append,List.length_cons,List.length_nil]at this⊢;omega
  ·split at h
   ·have:=mM l _ _ _ h
    simp only[List.length_append,List.length_cons,List.length_nil]at this⊢;omega
   ·cases h
    simp only[List.length_cons];omega
theorem vN{P:aF}{pg:Nat}{n e:Int}(h:dQ P pg=(none,n,e)):e=110 ∧ -1≤n∧n<P.Q3.length∨e=110∧n = -1:=by
 unfold dQ at h;split at h
 ·rename_i i hi
  cases h
  have:=mM _ _ _ _ hi;simp only[List.length_nil]at this;exact .inl ⟨rfl,χ,χ⟩
 ·split at h
  ·cases h
   exact .inr ⟨rfl,rfl⟩
  ·cases h
section
variable {named:ByteArray→Bool} {flat:Nat→cK→Nat×Int×Int} {P:aF}
theorem s9(h:yw named flat P){dev:Bool}{l:List Ck.Map}(u:∀m∈l,has P.things m.of=true)(v:jz P dev l):0<bP P l:=by
 unfold bP;rw[if_pos]
 ·omega
 ·rw[List.all_eq_true]
  intro m j;obtain⟨t,q⟩:=qy (u m j);have e:aP P m.of=t:=by unfold aP;rw[q];rfl
  have d:=rx h.Qk h.Q3 m.of;have g:=(v.one m j).2.1;rw[e]at d g;unfold dJ;rw[q];simp only[Bool.and_eq_true,decide_eq_true_eq];exact⟨d,jw.2 g⟩
theorem mH(h:yw named flat P):1≤pages flat P:=by
 unfold pages;rw[if_pos]
 ·have:248≤dl flat P:=by unfold dl;omega
  omega
 ·rw[List.all_eq_true]
  intro l d;rw[decide_eq_true_eq];unfold aF.tabled at d
  rcases Ω.1 d with d|d
  ·obtain⟨x,g,rfl⟩:=List.mem_map.1 d
   exact s9 h (h.names.Qg x g) (h.QP x g)
  ·obtain⟨x,g,rfl⟩:=List.mem_map.1 (List.mem_filter.1 d).1
   exact s9 h (fun m j=>vS (h.names.Qh x g m j)) (h.QR x g)
end
end Rs
end Go.Proofs.YthobcefghkeddaaGreatDoor
namespace Go.Proofs.YthobcefghkeddaaGreatDoor.Rs
open Go.RowKit Ck
def laT(A:Option Addr)(n c:Nat):Sta where
 a _:=A
 n j:=match j with|0=>n|1=>n|_=>c
def laR:Fr:=[(9,.one (.i .i64 (.ln 0))),(8,.one (.sl 0 0 2)),(2,.one (.p 1 0)),(4,.one (.p 2 0)),(1,.one (.p 0 0))]
def laZ:List Cl:=[.i .u64 (.c 0),.i .u64 (.c 0)]
def laE(e:Sp):Sta where
 i j:=match j with|0=>0|1=>e.1|_=>e.2
def laP(e:Sp):Sta where
 i j:=match j with|0=>e.1|_=>e.2
def LaW(l:List Sp)(bo:Nat)(k:Nat)(e:Sp)(w:World):Prop:=Row w bo [.int .u64 e.1,.int .u64 e.2]∧(0<k→e∈l)
theorem tE{w:World}{u:Value}{l:List Sp}(hu:au w u l):Calls Tryz.prog 57 #[.agg #[u]] w fun e w'=>(∃x:Sp,e=.returned (.tuple #[.agg #[.int .u64 x.1,.int .u64 x.2],.bool (decide (0<l.length))])∧(0<l.length→x∈l))∧Kz w w':=by
 obtain⟨R,hR⟩:∃R:Ending→World→Prop,R=fun e w'=>(∃x:Sp,e=.returned (.tuple #[.agg #[.int .u64 x.1,.int .u64 x.2],.bool (decide (0<l.length))])∧(0<l.length→x∈l))∧Kz w w':=⟨_,rfl⟩
 rw[←hR];obtain⟨A,c,eA,lA,bf,hm⟩:=id hu;subst eA;refine fnE (laT A l.length c) (fun _=>(0,0)) [.ag [.sl 0 0 2]] Tryz.func57 Tryz.ntmps57 rfl rfl ψ H0 (fun _ h=>h.elim) trivial fun a hd hh=>?_
 refine fb (CL:={}) τ [(2,.one (.p 1 0)),(1,.one (.p 0 0))] [(0,[.sl 0 0 2]),(1,laZ)] 2 [] δ hh dV fun κ1 a1 w1 n1 p1=>?_
 refine fb (CL:={}) τ [(4,.one (.p 2 0)),(2,.one (.p 1 0)),(1,.one (.p 0 0))] [(0,[.sl 0 0 2]),(1,laZ),(2,laZ)] 3 [] δ n1 dV fun κ2 a2 w2 n2 N=>?_
 obtain⟨x1,x2,x3⟩:=p1.new.row n1.mem (r:=1) rfl ψ ψ;obtain⟨y1,y2,y3⟩:=N.new.row n2.mem (r:=2) rfl ψ ψ;obtain⟨d,ad⟩:∃b,b=(κ2 2).1:=⟨_,rfl⟩;rw[←ad]at y1 y3;have bc:κ2 2=(d,0):=Prod.ext ad.symm y2;refine b7 1 τ ((10,.one (.i .i64 (.c 0)))::laR) [(0,[.sl 0 0 2]),(1,laZ)] 3 [] hPp δ n2 fun L a3 w3 n3 O=>?_
 have B:L 2=(d,0):=(O.upto 2 ψ).trans bc;have Y:L 1=κ1 1:=(O.upto 1 ψ).trans (N.upto 1 ψ);have af:Kz w w3:=K3 (K3 p1.keep N.keep) O.keep;have l1:∀r,r<2→(L r).1<w1.heap.size:=fun r H=>by
  rw[(O.upto r (by show r<3;omega)).trans (N.upto r H)]
  match r,H with
  | 0,_=>exact(n1.mem.get 0 _ rfl).1.1
  | 1,_=>exact(n1.mem.get 1 _ rfl).1.1
 have al:w.heap.size≤d:=by have:=p1.keep.size;omega
 have r3:Row w3 d [.int .u64 0,.int .u64 0]:=y1.keep O.keep fun h=>h
 have n4:=n3.mute (Gh.of (fun g=>g=d) (fun _=>True) (fun _ _ _ _=>trivial)) [(0,[.sl 0 0 2]),(1,laZ)] [] δ (fun r m hm e=>by
  have H:r<2:=by
   rcases Ξ.1 (gI hm)with e|e
   ·cases e;omega
   ·cases ρ.1 e;omega
  have:=l1 r H;have e:(L r).1=d:=e;omega) (fun g D=>by rw[show g=d from D];exact r3.lt) trivial
 refine az (ow n4 l.length 24 10 0 laR τ laE (fun k e w=>LaW l d k e w) (fun _ _ _ _ hk h=>⟨h.1.keep hk fun h=>h,h.2⟩) (0,0) hPp δ rfl χ ⟨r3,fun h=>absurd h (Nat.lt_irrefl 0)⟩ (n4.has.re ⟨rfl,rfl,rfl,rfl,rfl,rfl,trivial⟩) (fun k e a4 Z hk n5 hA hK=>?_) fun e a4 Z n5 hA hK=>?_)
 ·obtain⟨s,hs⟩:=ge hk
  have Q:aD (fun g=>g=d) w3 Z:=hK;have I:Kz w Z:=aS af Q fun g D=>by rw[show g=d from D];exact al
  obtain⟨g,eg,D,a6⟩:=hm χ;obtain⟨hW,U⟩:=(show LaW l d k e Z from n5.gh);obtain⟨_,hc,_⟩:=a6 k s hs;have n6:=(n5.row 2 [.i .u64 (.x 25),.i .u64 (.x 26)] (by rw[B]) (by rw[B];exact hW)).lay 32 (laP s) δ;obtain⟨κ7,u7,_,n7⟩:=n6.base g (2*k) [.i .u64 (.x 32),.i .u64 (.x 33)] ⟨Θ D I.size,id⟩ (fun j v hj=>(I.cell (p:=⟨_,_,none⟩) D id).trans (hc j v hj)) [(0,2,.x 24,0,3)] δ (fun z hz=>by
   obtain rfl:=ρ.1 hz;refine⟨?_,?_,g,0,eg,?_⟩
   ·show(0:Int)≤(k:Int);omega
   ·show(k:Int)<(l.length:Int);omega
   ·show(g,2*k)=(g,0+(k:Int).toNat*2)
    congr 1
    omega)
  obtain⟨bb,an⟩:∃bb,BE.den ((laT A l.length c).put 24 ((laE e).cnt k) |>.put 32 (laP s)) (.cmp .gtr (.bin .sub .u64 (.x 33) (.x 32)) (.bin .sub .u64 (.x 26) (.x 25)))=bb:=⟨_,rfl⟩;obtain⟨FA,tb,a0,hF,a7⟩:∃(FA:List (BE×Bool)) (tb:BE),(FA=[(.cmp .eql (.x 24) (.c 0),true)]∧tb=.c true∨FA=[(.cmp .eql (.x 24) (.c 0),false),(.cmp .gtr (.bin .sub .u64 (.x 33) (.x 32)) (.bin .sub .u64 (.x 26) (.x 25)),bb)]∧tb=.cmp .gtr (.bin .sub .u64 (.x 33) (.x 32)) (.bin .sub .u64 (.x 26) (.x 25)))∧(∀z∈FA,z.1.den ((laT A l.length c).put 24 ((laE e).cnt k) |>.put 32 (laP s))=z.2)∧(tb.den ((laT A l.length c).put 24 ((laE e).cnt k) |>.put 32 (laP s))=false→0<k):=by
   rcases ϑ k with z|z
   ·subst z
    exact⟨_,_,.inl ⟨rfl,rfl⟩,fa1 rfl,fun h=>by cases h⟩
   ·exact⟨_,_,.inr ⟨rfl,rfl⟩,yZ (by show((k:Int)==0)=false;simp;omega) an,fun _=>z⟩
  refine aY (b7 2 τ ((29,.one (.b tb))::(6,.one (.p 4 0))::fx 24 10 laR) [(2,[.i .u64 (.x 25),.i .u64 (.x 26)]),(4,[.i .u64 (.x 32),.i .u64 (.x 33)])] 5 [] hPp (by rcases a0 with⟨rfl,rfl⟩|⟨rfl,rfl⟩<;>cases bb<;>kernel_rfl) (n7.more FA [] [] hF (fun y hy=>by cases hy) (fun i x hx=>by cases hx)) fun κ8 a8 w8 n8 X=>?_);have u8:∀r,r<3→κ8 r=L r:=fun r H=>(X.upto r (by show r<4;omega)).trans (u7 r H)
  have V:κ8 2=(d,0):=(u8 2 χ).trans B;have ac:=hW.keep X.keep fun h=>h
  obtain⟨v,hv⟩:∃v,tb.den ((laT A l.length c).put 24 ((laE e).cnt k) |>.put 32 (laP s))=v:=⟨_,rfl⟩
  cases v with
  | true =>
   refine cG true n8 rfl hv ?_;have a5:(κ8 4).1≠d:=by
    have h1:=(X.new 4 ψ ψ).1.1;have:=hW.lt;omega
   refine lr (CL:={}) 1 2 [4] τ (fx 24 10 laR) [(2,[.i .u64 (.x 32),.i .u64 (.x 33)])] 5 [] δ n8.bare dV (fun _=>by rw[V];exact ac.some) (fun q hq=>by
    obtain rfl:=ρ.1 hq;rw[V];exact⟨(n8.mem.get 4 _ rfl).1.1,fun _=>a5⟩) (fun _ _ _ _ _ _ _=>trivial) fun κ9 a9 w9 n9 u9 k9 g9 _ r9=>cM rfl ?_
   have W:κ9 2=(d,0):=(u9 2 (by show 2<5;omega)).trans V;rw[W]at k9;refine⟨s,κ9,⟨?_,fun _=>γ hs⟩,fun r (H:r<3)=>(u9 r (by show r<5;omega)).trans (u8 r H),n9.has.re ⟨rfl,rfl,rfl,rfl,rfl,rfl,trivial⟩,(hA.trans X.agree fun _ h=>h).trans g9 fun _ h=>h,(Q.trans (K_T X.keep) fun _ _ h=>h).trans (k9.mono fun _ _ h=>h.elim (fun h=>h.elim) id) fun _ _ h=>h⟩;have:=n9.mem.row (r:=2) rfl (by rw[W]) r9;rw[W]at this;exact this
  | false =>
   refine cG false n8 rfl hv (fZ (cM rfl ?_));exact⟨e,κ8,⟨ac,fun _=>U (a7 hv)⟩,fun r (H:r<3)=>u8 r H,n8.has.re ⟨rfl,rfl,rfl,rfl,rfl,rfl,trivial⟩,hA.trans X.agree fun _ h=>h,Q.trans (K_T X.keep) fun _ _ h=>h⟩
 ·obtain⟨hW,U⟩:=(show LaW l d l.length e Z from n5.gh)
  have I:Kz w Z:=aS af hK fun g D=>by rw[show g=d from D];exact al
  obtain⟨b1,J⟩:∃b,b=(L 1).1:=⟨_,rfl⟩;have bd:(L 0).1<b1:=by
   rw[J,Y,(O.upto 0 ψ).trans (N.upto 0 ψ)];exact(p1.new 1 ψ ψ).2.2.2 0 ψ ψ
  have be:b1<d:=by
   have:=l1 1 χ;have:=(N.new 2 ψ ψ).1.1;omega
  rw[←Y,←J]at x1 x3;have K:L 1=(b1,0):=Prod.ext J.symm (by rw[Y];exact x2);have r1:=(((x1.keep N.keep fun h=>h).keep O.keep fun h=>h).keep hK fun h:b1=d=>χ);have n6:=n5.row 2 [.i .u64 (.x 25),.i .u64 (.x 26)] (by rw[B]) (by rw[B];exact hW);have n7:=n6.mute (Gh.of (fun g=>g=b1) (fun _=>True) (fun _ _ _ _=>trivial)) [(0,[.sl 0 0 2]),(2,[.i .u64 (.x 25),.i .u64 (.x 26)])] [] δ (fun r m hm e=>by
   have e:(L r).1=b1:=e
   rcases Ξ.1 (gI hm)with h|h
   ·cases h;omega
   ·cases ρ.1 h
    rw[B]at e;have e:d=b1:=e;omega) (fun g D=>by rw[show g=b1 from D];exact r1.lt) trivial
  refine EH (C:={}) 5 [(32,.ag [.i .u64 (.x 25),.i .u64 (.x 26)]),(33,.one (.p 0 0)),(34,.one (.sl 0 0 2)),(35,.one (.i .i64 (.ln 0))),(36,.one (.b (.cmp .gtr (.ln 0) (.c 0)))),(3,.one (.b (.cmp .gtr (.ln 0) (.c 0)))),(2,.one (.p 1 0)),(4,.one (.p 2 0)),(1,.one (.p 0 0))] 1 [.i .u64 (.x 25),.i .u64 (.x 26)] hPp δ n7 rfl (by exact J.symm) (by rw[K]) (us:=[.int .u64 0,.int .u64 0]) (by rw[K];exact r1) rfl fun a8 w8 h8 k8 r8 d8=>kB ?_
  rw[K]at k8 r8;refine EK (t:=2) (r:=1) (E:=125) (t2:=3) (v := .ag [.i .u64 (.x 25),.i .u64 (.x 26)]) rfl h8 rfl δ rfl (r8.memF K) (d8.trans (hA.defers.trans (O.agree.defers.trans (N.agree.defers.trans (p1.agree.defers.trans hd))))) ?_;rw[hR];refine⟨⟨e,congrArg (fun x=>Ending.returned (.tuple #[_,.bool x])) (by show decide ((0:Int)<(l.length:Int))=_;exact decide_eq_decide.2 χ),U⟩,I.trans k8 fun g h1 h2=>?_⟩;have h2:g=b1:=h2;have:=x3;omega
theorem qj:∀(l:List Region),(∀x∈l,x.size≤67108864)→cO l≤l.length*67108864
 | [],_=>Γ _
 | x::l,h=>by
  have g:=qj l fun y d=>h y (List.mem_cons_of_mem _ d)
  have j:=h x List.mem_cons_self;have:cO (x::l)=(if x.fixed then 0 else x.size)+cO l:=by
   unfold cO
   cases hx:x.fixed<;>simp[hx]
  rw[this,List.length_cons];split<;>omega
def muD(b:Bool):Sta where
 b _:=b
def lgD(x:Sp)(b:Bool):Sta where
 i j:=match j with|0=>x.1|_=>x.2
 b _:=b
 o _ := .tuple #[.agg #[.int .u64 x.1,.int .u64 x.2],.bool b]
def lgL:List Cl:=[.i .u64 (.x 128),.i .u64 (.x 129)]
def Ec:Kn:={ KO:=[(67,[(63,.one (.v 128))],.ag lgL),(68,[(63,.one (.v 128))],.one (.b (.x 128)))] }
theorem CB{S:Sta}{κ:Kap}{P:Program}{ops:List Oper}(x:Sp)(b:Bool)(u:((ops.filter fun o=>o.dst==some 67).map (·.op))=[.extract (.tmp 63) 0])(v:((ops.filter fun o=>o.dst==some 68).map (·.op))=[.extract (.tmp 63) 1]):gQ (S.put 128 (lgD x b)) κ P ops Ec:=by
 refine⟨(fun _ h=>by cases h),fun y j o d q a w l=>?_⟩
 rcases Ξ.1 j with rfl|j
 ·have g:a.eval (.tmp 63)=(lgD x b).o 0:=l _ (ρ.2 rfl)
  exact gX (jZ u d q) g rfl
 obtain rfl:=ρ.1 j;have g:a.eval (.tmp 63)=(lgD x b).o 0:=l _ (ρ.2 rfl);exact gX (jZ v d q) g rfl
def toD(n:Nat):Sta where
 i _:=n
def sJ:Fr:=[(2,.one (.p 0 0)),(1,.one (.b (.x 40)))]
def rmG:Fr:=(6,.one (.i .i64 (.x 82)))::sJ
def rmL:Fr:=(8,.one (.i .u64 (.x 97)))::rmG
def RmW(P:aF)(k e:Nat):Prop:=e=cO (P.Q3.take k)∧∀x∈P.Q3.take k,x.fixed=false→x.big=false
theorem tI{b b2:Nat}{J:Act→World→Prop}{Q:Exit→Act→World→Prop}{a:Act}{w:World}(h:J a w):bi b b2 J Q (.exit b2) a w:=by
 show(if b2=b2 then J a w else if b2=b then Q .normal a w else Q (.exit b2) a w);rw[if_pos rfl];exact h
theorem sI{B:Nat}{w:World}{v:ae}{P:aF}(j:Bool)(h:bD B w v P)(ca:iH B w)(hB:B≤w.heap.size){ok:Bool}(V:ok=true↔nH (eF jg) aa P)(hm:j=true→ok=true∧∃l n e,dQ P (pages aa P)=(some l,n,e)):
 Calls Tryz.prog 19 #[.agg (v.cells P).toArray,.bool j] w fun e w'=>e=.returned (.bool true)∧Kz w w':=by
 obtain⟨R,hR⟩:∃R:Ending→World→Prop,R=fun e w'=>e=.returned (.bool true)∧Kz w w':=⟨_,rfl⟩
 rw[←hR];have cv:P.Q3.length≤2097152:=by obtain⟨_,_,_,_,O,_⟩:=h.Q3;exact O
 have af:Agr (lo 24) (cE v P) ((cE v P).put 40 (muD j)):=uH ψ;refine fnE ((cE v P).put 40 (muD j)) (fun _=>(0,0)) [.ag ah,.one (.b (.x 40))] Tryz.func19 Tryz.ntmps19 rfl (by rw[List.map_cons,bT h af];rfl) ψ H0 (fun _ h=>h.elim) trivial fun a hd hh=>?_
 refine b7 1 τ sJ [(0,ah)] 1 [] hPp δ hh fun κ1 a1 w1 n1 p1=>?_
 have bf:=p1.keep;refine zR 2 (sw 1 16 [.ag ah] (.one (.v 80)) 80 (fun d w'=>∃x,d=lrD x∧LyR P ok (pages aa P) x w'∧∀g o,x.A=some ⟨g,o,none⟩→0<x.n→w1.heap.size≤g) τ ((14,.one (.v 80))::sJ) [(0,ah)] 1 δ n1 (fun w' I=>?_) fun κ2 a2 w2 d dc ⟨D,b3,cf,c5⟩ cm n2 p2=>?_)
 ·rw[List.map_cons,bT h af]
  have J:=K3 bf I;exact(CD (bD.kept h hB J) (iH.kept ca hB J (Γ _)) (by have:=J.size;omega) V).mono fun en bz ⟨x,e1,e2,e3,e4⟩=>⟨_,⟨x,rfl,e2,fun g o q1 q2=>by have:=e4 g o q1 q2;have:=I.size;omega⟩,e1,e3⟩
 subst b3;refine AU (CL:=EW 80 12 15 16 17) τ ((7,.one (.i .i64 (.x 83)))::(5,.one (.p 1 0))::rmG) [(0,ah),(1,lrL 80)] 2 [] δ n2 (fun o ho=>List.mem_of_mem_drop ho) (C9 D rfl rfl rfl rfl rfl rfl rfl) fun κ3 a3 w3 n3 p3=>ln (show wpL _ _ _ _ _ from ?_)
 have N:=(cf.keep cm).keep p3.keep;have ac:=K3 (K3 bf p2.keep) p3.keep;have an:a3.defers=[]:=p3.agree.defers.trans (p2.agree.defers.trans (p1.agree.defers.trans hd));have bc:Agr (lo 24) (cE v P) (((cE v P).put 40 (muD j)).put 80 (lrD D)):=af.trans (uH ψ);have key:(j=false∧(D.e=1∨ok=true∧D.e=110∧dQ P (pages aa P)=(none,D.k,110)))∨(ok=true∧D.e=0∧∃l n e,dQ P (pages aa P)=(some l,n,e)∧D.im=l.image∧D.pg=l.pages∧D.n=l.Q3.length∧wF w3 (.slice D.A D.n D.c) l.Q3):=by
  have bo:(¬ (ok=true∧∃l n e,dQ P (pages aa P)=(some l,n,e)))→j=false:=fun h=>by
   cases j with
   | false=>rfl
   | true=>exact absurd (hm rfl) h
  cases ok with
  | false =>
   obtain rfl:D=vK (-1) 1:=N;exact .inl ⟨bo fun h=>(by cases h.1),.inl rfl⟩
  | true =>
   unfold LyR at N;simp only at N;split at N
   ·rename_i n e O
    subst N;have Z:e=110:=by rcases vN O with⟨q,_⟩|⟨q,_⟩<;>exact q
    subst Z;exact .inl ⟨bo fun⟨_,l,n',e',h⟩=>(by rw[O]at h;cases h),.inr ⟨rfl,rfl,O⟩⟩
   ·rename_i l n e O
    obtain⟨q1,q2,q3,q4,q5,q6⟩:=N;obtain⟨_,_,e0,_⟩:=qY (dH (V.1 rfl)) (mH (dH (V.1 rfl))) O;exact .inr ⟨rfl,q4.trans e0,l,n,e,O,q1,q2,q5,q6⟩
 rcases key with⟨a0,Z|⟨rfl,Z,O⟩⟩|⟨rfl,Z,l,n,e,O,q1,q2,q5,q6⟩
 ·-- refused
  refine dU 4 τ [(4,.one (.b (.not (.x 40))))] [] 2 [] hPp δ (n3.more [(.cmp .eql (.x 83) (.c 0),false),(.x 40,false),(.cmp .neq (.x 83) (.c 110),true)] [] [] (fac (by show(D.e==0)=false;rw[Z];rfl) (fac a0 (fac (by show(D.e !=110)=true;rw[Z];rfl) dg))) (fun y H=>by cases H) (fun i x C=>by cases C)) fun κ4 a4 w4 n4 p4=>?_
  exact fj 4 rfl n4.has rfl (p4.agree.defers.trans an) (by rw[hR];exact⟨congrArg (fun b=>Ending.returned (.bool b)) (show(!j)=true by rw[a0];rfl),K3 ac p4.keep⟩)
 ·-- no room
  have E:=dH (V.1 rfl);have bp:∀x∈P.Q3,x.size≤67108864:=fun x C=>(E.Q3.one x C).2.1
  have bd:∀k,cO (P.Q3.take k)≤2097152*67108864:=fun k=>by
   refine Δ (qj _ fun x C=>bp x (List.mem_of_mem_take C)) (Nat.mul_le_mul_right _ ?_);rw[List.length_take];omega
  refine b7 6 τ ((9,.one (.i .i64 (.c 0)))::(8,.one (.i .u64 (.c 0)))::rmG) [(0,ah)] 2 [] hPp δ (n3.more [(.cmp .eql (.x 83) (.c 0),false),(.x 40,false),(.cmp .neq (.x 83) (.c 110),false)] [] [] (fac (by show(D.e==0)=false;rw[Z];rfl) (fac a0 (fac (by show(D.e !=110)=false;rw[Z];rfl) dg))) (fun y H=>by cases H) (fun i x C=>by cases C)) fun κ4 a4 w4 n4 p4=>?_
  have bg:=K3 ac p4.keep;have be:=p4.agree.defers.trans an;refine az (Eh n4 P.Q3.length 96 9 2 rmL τ rD (fun k e _=>RmW P k e) (fun _ _ _ _ _ h=>h) 0 hPp δ rfl χ ⟨rfl,fun x C=>by cases C⟩ (n4.has.re ⟨rfl,rfl,rfl,rfl,rfl,trivial⟩) (fun k e a5 w5 hk n5 hA hK=>?_) fun e a5 w5 n5 hA hK=>?_)
  ·obtain⟨y,H⟩:=ge hk
   have Y:Kz w w5:=K3 bg hK;obtain⟨g,o,h1,h2,h3⟩:=cW h.Q3 (aI _ _ _) hB Y H;obtain⟨U,Q⟩:=(show RmW P k e from n5.gh);have bm:=γ H;have c6:=bp y bm;have c3:=bd k;have bs:P.Q3.take (k+1)=P.Q3.take k++[y]:=by rw[List.take_add_one,H];rfl
   obtain⟨κ6,u6,_,n6⟩:=(n5.lay 104 (ly y) δ).base g (o+k*10) (nK 104) ⟨h2,id⟩ h3.1 [(2,10,.x 96,2,2)] δ (fun z hz=>by
    obtain rfl:=ρ.1 hz;refine⟨?_,?_,g,o,h1,?_⟩
    ·show(0:Int)≤(k:Int);omega
    ·show(k:Int)<(P.Q3.length:Int);omega
    ·show(g,o+k*10)=(g,o+(k:Int).toNat*10)
     congr 1)
   cases hf:y.fixed with
   | true =>
    refine aY (Bg 2 (.e 1) τ (fx 96 9 rmL) [] 3 [] hPp δ (n6.more [(.x 104,true)] [] [] (fa1 hf) (fun y H=>by cases H) (fun i x C=>by cases C)) fun κ7 a7 w7 W X=>?_);show Exit.then _ _ (.exit 1) a7 w7;refine eP (tI ?_);refine⟨e,κ7,⟨?_,fun x C=>?_⟩,fun r (hr:r<2)=>(X.upto r (by show r<3;omega)).trans (u6 r hr),W.has.re ⟨rfl,rfl,rfl,rfl,rfl,trivial⟩,hA.trans X.agree fun _ h=>h,K3 hK X.keep⟩
    ·rw[U,jc H,hf];rfl
    ·rw[bs]at C
     rcases Ω.1 C with C|C
     ·exact Q x C
     ·obtain rfl:=ρ.1 C
      exact fun h=>by rw[hf]at h;cases h
   | false =>
    cases hb:y.big with
    | true =>
     refine aY (dU 4 τ [(4,.one (.b (.c true)))] [] 3 [] hPp δ (n6.more [(.x 104,false),(.x 105,true)] [] [] (fac hf (fac hb dg)) (fun y H=>by cases H) (fun i x C=>by cases C)) fun κ7 a7 w7 W X=>bQ (bY ?_));exact fj 4 rfl W.has rfl (X.agree.defers.trans (hA.defers.trans be)) (by rw[hR];exact⟨rfl,K3 Y X.keep⟩)
    | false =>
     refine aY (b7 5 τ ((8,.one (.i .u64 (.bin .add .u64 (.x 97) (.x 105))))::fx 96 9 rmG) [] 3 [] hPp δ (n6.more [(.x 104,false),(.x 105,false)] [] [] (fac hf (fac hb dg)) (fun y H=>by cases H) (fun i x C=>by cases C)) fun κ7 a7 w7 W X=>cM rfl ?_);refine⟨e+y.size,κ7,⟨?_,fun x C=>?_⟩,fun r (hr:r<2)=>(X.upto r (by show r<3;omega)).trans (u6 r hr),W.has.re ⟨rfl,congrArg (Value.int .u64) ?_,rfl,rfl,rfl,trivial⟩,hA.trans X.agree fun _ h=>h,K3 hK X.keep⟩
     ·rw[U,jc H,hf];rfl
     ·rw[bs]at C
      rcases Ω.1 C with C|C
      ·exact Q x C
      ·obtain rfl:=ρ.1 C
       exact fun _=>hb
     ·show IntKind.u64.wrap ((e:Int)+(y.size:Int))=((e+y.size:Nat):Int)
      rw[Go.IntWalk.u64_in _ χ];omega
  ·obtain⟨U,Q⟩:=(show RmW P P.Q3.length e from n5.gh)
   rw[List.take_length]at U Q;have b2:=bd P.Q3.length;rw[List.take_length]at b2;have Y:=K3 bg hK;have b4:=hA.defers.trans be;obtain⟨cc,al⟩:∃cc:Nat,cc=if 0≤D.k then 4096 else 4194304:=⟨_,rfl⟩
   obtain⟨FA,hc,hF⟩:∃FA:List (BE×Bool),(FA=[(.cmp .geq (.x 82) (.c 0),true)]∧cc=4096∨FA=[(.cmp .geq (.x 82) (.c 0),false)]∧cc=4194304)∧∀z∈FA,z.1.den ((((cE v P).put 40 (muD j)).put 80 (lrD D)).put 96 ((rD e).cnt P.Q3.length))=z.2:=by
    by_cases hk:0≤D.k
    ·exact⟨_,.inl ⟨rfl,by rw[al,if_pos hk]⟩,fa1 (show decide (D.k≥0)=true from decide_eq_true hk)⟩
    ·exact⟨_,.inr ⟨rfl,by rw[al,if_neg hk]⟩,fa1 (show decide (D.k≥0)=false from decide_eq_false hk)⟩
   refine b7 2 τ ((8,.one (.i .u64 (.bin .add .u64 (.x 97) (.c cc))))::sJ) [(0,ah)] 2 [] hPp (by rcases hc with⟨rfl,rfl⟩|⟨rfl,rfl⟩<;>kernel_rfl) (n5.more FA [] [] hF (fun y H=>by cases H) (fun i x C=>by cases C)) fun κ6 a6 w6 n6 p6=>?_
   have c4:cc≤4194304:=by rcases hc with⟨_,z⟩|⟨_,z⟩<;>omega
   obtain⟨K,bt⟩:∃n,n=e+cc:=⟨_,rfl⟩;have W:=n6.lay 112 (toD K) δ;have W:Now ((((((cE v P).put 40 (muD j)).put 80 (lrD D)).put 96 ((rD e).cnt P.Q3.length))).put 112 (toD K)) κ6 81 Tryz.prog {} H0 ⟨(8,.one (.i .u64 (.x 112)))::sJ,[(0,ah)],2,[]⟩ a6 w6:=⟨W.has.re ⟨congrArg (Value.int .u64) (by
    show IntKind.u64.wrap ((e:Int)+(cc:Int))=(K:Int);rw[Go.IntWalk.u64_in _ χ];omega),rfl,rfl,trivial⟩,W.mem,Rs.noC _ _ _ _ _,W.tb,trivial⟩
   have bl:=K3 Y p6.keep;have b0:Agr (lo 24) (cE v P) ((((((cE v P).put 40 (muD j)).put 80 (lrD D)).put 96 ((rD e).cnt P.Q3.length))).put 112 (toD K)):=(bc.trans (uH ψ)).trans (uH ψ);refine zR 2 (sw 1 50 [.ag ah] (.ag [.sl 116 117 118]) 116 (fun d w'=>∃s:SlE,d=slD s∧∃L,s.n=L.length∧au w' (.slice s.A s.n s.c) L∧dP L∧∀q,aW L q↔ay P q) τ ((65,.ag [.sl 116 117 118])::(8,.one (.i .u64 (.x 112)))::sJ) [(0,ah)] 2 δ W (fun w' I=>?_) fun κ8 a8 w8 d di ⟨s,b5,L,s1,s2,s3,s4⟩ cp n8 p8=>?_)
   ·rw[List.map_cons,bT h b0]
    have J:=K3 bl I;refine(tR (bD.kept h hB J) (by have:=J.size;omega) (rR E)).mono fun en bz ⟨u,l,y1,y2,_,y4,y5,y6⟩=>?_
    obtain⟨A',c',rfl,_⟩:=id y2;exact⟨_,⟨⟨A',l.length,c'⟩,rfl,l,rfl,y2,y4,y5⟩,y1,y6⟩
   subst b5;refine AT 1 (sw 0 57 [.ag [.sl 116 117 118]] (.one (.v 128)) 128 (fun d w'=>∃x b,d=lgD x b∧b=decide (0<L.length)∧(0<L.length→x∈L)) τ ((66,.one (.v 128))::(8,.one (.i .u64 (.x 112)))::sJ) [(0,ah)] 2 δ n8 (fun w' I=>?_) fun κ9 a9 w9 d dk ⟨x,b,b6,b1,cj⟩ c7 n9 p9=>?_)
   ·exact(tE ((s2.keep cp).keep I)).mono fun en bz ⟨⟨x,e1,e2⟩,e3⟩=>⟨_,⟨x,_,rfl,rfl,e2⟩,e1,e3⟩
   subst b6;refine AU (CL:=Ec) τ ((11,.one (.b (.x 128)))::(10,.one (.p 2 0))::(8,.one (.i .u64 (.x 112)))::sJ) [(0,ah),(2,lgL)] 3 [] δ n9 (fun o ho=>List.mem_of_mem_drop (List.mem_of_mem_drop ho)) (CB x b rfl rfl) fun ds cx c8 cs bw=>ln (show wpL _ _ _ _ _ from ?_)
   obtain⟨GA,tb,gc,gF,gt⟩:∃(GA:List (BE×Bool)) (tb:BE),(GA=[(.x 128,false),(.not (.x 128),true)]∧tb=.c true∨GA=[(.x 128,true),(.not (.x 128),false)]∧tb=.cmp .gtr (.x 112) (.bin .add .u64 (.bin .sub .u64 (.x 129) (.x 128)) (.c 1)))∧(∀z∈GA,z.1.den (((((((((cE v P).put 40 (muD j)).put 80 (lrD D)).put 96 ((rD e).cnt P.Q3.length))).put 112 (toD K))).put 116 (slD s)).put 128 (lgD x b))=z.2)∧tb.den (((((((((cE v P).put 40 (muD j)).put 80 (lrD D)).put 96 ((rD e).cnt P.Q3.length))).put 112 (toD K))).put 116 (slD s)).put 128 (lgD x b))=true:=by
    cases b with
    | false=>exact⟨_,_,.inl ⟨rfl,rfl⟩,fac rfl (fac rfl dg),rfl⟩
    | true =>
     refine⟨_,_,.inr ⟨rfl,rfl⟩,fac rfl (fac rfl dg),?_⟩;have h0:0<L.length:=of_decide_eq_true b1.symm;have C:=cj h0;have ad:=zZ E ⟨mH E,by have:=E.image;omega⟩ O Q s3.ok s4 C;have cb:=s3.ok.some_ x C;have cw:x.2<4294967296:=nU E.Qk ((s4 x.2).1 ⟨x,C,cb,Γ _⟩).1;have e2:x.2-x.1+1<K:=by
      rw[bt,U,al]
      by_cases hk:0≤D.k
      ·rw[if_pos hk]at ad⊢; exact ad
      ·rw[if_neg hk]at ad⊢; exact ad
     show decide ((K:Int)>IntKind.u64.wrap (IntKind.u64.wrap ((x.2:Int)-(x.1:Int))+((1:Nat):Int)))=true;rw[Go.IntWalk.u64_in ((x.2:Int)-(x.1:Int)) χ,Go.IntWalk.u64_in _ χ];exact decide_eq_true χ
   refine dU 2 τ [(4,.one (.b tb))] [] 3 [] hPp (by rcases gc with⟨rfl,rfl⟩|⟨rfl,rfl⟩<;>kernel_rfl) (cs.more GA [] [] gF (fun y H=>by cases H) (fun i x C=>by cases C)) fun dt cy c9 cu bx=>?_
   refine fj 4 rfl cu.has rfl (bx.agree.defers.trans (bw.agree.defers.trans (p9.agree.defers.trans (p8.agree.defers.trans (p6.agree.defers.trans b4))))) ?_;rw[hR];exact⟨congrArg (fun b=>Ending.returned (.bool b)) gt,K3 (K3 (K3 (K3 bl p8.keep) p9.keep) bw.keep) bx.keep⟩
 ·-- laid
  have bb:=V.1 rfl;have cd:=qY (dH bb) (mH (dH bb)) O;refine dU 3 τ [(4,.one (.b (.c true)))] [] 2 [] hPp δ (n3.more [(.cmp .eql (.x 83) (.c 0),true)] [(21,[.ag ah,.ag (lrL 80)],.one (.b (.c true)))] [] (fa1 (by show(D.e==0)=true;rw[Z];rfl)) (fun y H w' I=>by
   have J:=K3 ac I;obtain rfl:=ρ.1 H;show Calls Tryz.prog 21 #[SV.den _ _ (.ag ah),vM (.slice D.A D.n D.c) D.im D.pg] w' _;rw[bT h bc];exact xr (bD.kept h hB J) (by have:=J.size;omega) bb cd.1 q1 q2 q5 (q6.keep I)) (fun i x C=>by cases C)) fun κ4 a4 w4 n4 p4=>?_
  exact fj 4 rfl n4.has rfl (p4.agree.defers.trans an) (by rw[hR];exact⟨rfl,K3 ac p4.keep⟩)
theorem pj{B:Nat}{w:World}{v:ae}{P:aF}(h:bD B w v P)(E:iH B w)(H:B≤w.heap.size):
 Calls Tryz.prog 5 #[.agg (v.cells P).toArray] w fun e w'=>e=.returned (.bool true)∧Kz w w':=by
 obtain⟨R,U⟩:∃R:Ending→World→Prop,R=fun e w'=>e=.returned (.bool true)∧Kz w w':=⟨_,rfl⟩
 rw[←U];obtain⟨ok,J⟩:∃b:Bool,(b=true↔nH (eF jg) aa P):=by
  classical exact⟨decide (nH (eF jg) aa P),decide_eq_true_iff⟩
 refine fnE (cE v P) (fun _=>(0,0)) [.ag ah] Tryz.func5 Tryz.ntmps5 rfl (by rw[List.map_cons,bT h (Agr.refl _ _)];rfl) ψ H0 (fun _ h=>h.elim) trivial fun a hd hh=>?_
 refine b7 1 τ [(1,.one (.p 0 0))] [(0,ah)] 1 [] hPp δ hh fun κ1 a1 w1 n1 X=>?_
 have u:=X.keep;refine zR 1 (sw 0 17 [] (.ag (zv 40)) 40 (fun d w'=>∃b,d=cE (smV b) (smP 8192 smQ)∧bD w'.heap.size w' (smV b) (smP 8192 smQ)∧w1.heap.size≤w'.heap.size) τ [(3,.ag (zv 40)),(1,.one (.p 0 0))] [(0,ah)] 1 δ n1 (fun w' g=>(xf w').mono fun en ad ⟨b,e1,_,Q,e3⟩=>⟨_,⟨b,rfl,e3.QU ψ,by have:=g.size;have:=Q.size;omega⟩,by rw[e1,sS (e3.QU ψ)],Q⟩) fun κ2 a2 w2 d O ⟨b,I,K,V⟩ q n2 Y=>?_);subst I;have ac:B≤w1.heap.size:=by have:=u.size;omega
 have l:=bD.kept K (Γ _) q;have C:=K3 u Y.keep;refine AU (CL:={}) τ [(5,.one (.b (.not (.c true)))),(1,.one (.p 0 0))] [(0,ah)] 1 [] δ (n2.more [] [(19,[.ag (zv 40),.one (.b (.c true))],.one (.b (.c true)))] [] dg (fun y N w' g=>by
  obtain rfl:=ρ.1 N;show Calls Tryz.prog 19 #[SV.den _ _ (.ag (zv 40)),.bool true] w' _;rw[sS l];have j:=K3 C g;exact sI true (bD.kept l q.size g) (iH.kept E H j (B':=O.heap.size) χ) (by have:=q.size;have:=g.size;omega) (ok:=true) ⟨fun _=>zO,fun _=>rfl⟩ fun _=>⟨rfl,_,_,_,by rw[zP];exact D7⟩) (fun i x L=>by cases L)) (fun o ho=>List.mem_of_mem_drop ho) dV fun κ3 a3 w3 W Z=>ln (show wpL _ _ _ _ _ from ?_)
 have D:=K3 C Z.keep;refine cG false W rfl rfl (fZ ?_);refine dU 2 τ [(2,.one (.b (.c true)))] [] 1 [] hPp δ (W.bare.more [] [(19,[.ag ah,.one (.b (.c false))],.one (.b (.c true)))] [] dg (fun y N w' g=>by
  obtain rfl:=ρ.1 N;show Calls Tryz.prog 19 #[SV.den _ _ (.ag ah),.bool false] w' _;rw[bT h (uH ψ)];have j:=K3 D g;exact sI false (bD.kept h H j) (iH.kept E H j (Γ _)) (by have:=j.size;omega) J fun h=>by cases h) (fun i x L=>by cases L)) fun κ4 a4 w4 n4 p4=>?_
 exact fj 2 rfl n4.has rfl (p4.agree.defers.trans (Z.agree.defers.trans (Y.agree.defers.trans (X.agree.defers.trans hd)))) (by rw[U];exact⟨rfl,K3 D p4.keep⟩)
end Go.Proofs.YthobcefghkeddaaGreatDoor.Rs
namespace Go.Proofs.YthobcefghkeddaaGreatDoor
open Go.ChangeShapes Go.WideShapes Go.ChangeAt Go.RowKit Go.Deep
namespace bulks
theorem part_le{H:Type}{d:DataW H}{l:List (DataW H)}(h:d∈l):Rows.uptoBulk d≤Rows.uptoBulkAll l:=by
 induction l with
 | nil=>cases h
 | cons x r ih =>
  simp only[Rows.uptoBulkAll]
  rcases Ξ.1 h with e|e
  ·subst e;omega
  ·have:=ih e;omega
theorem DH{H:Type}(d:DataW H):1≤Rows.uptoBulk d:=by
 cases d with
 | lit l=>cases l<;>simp[Rows.uptoBulk]
 | nil=>simp[Rows.uptoBulk]
 | ptr d=>simp[Rows.uptoBulk]
 | slice elems spare=>simp[Rows.uptoBulk]
 | agg parts=>simp[Rows.uptoBulk]
 | iface t d=>simp[Rows.uptoBulk]
 | map entries=>simp[Rows.uptoBulk]
 | held h=>simp[Rows.uptoBulk]
theorem length_le{H:Type}(l:List (DataW H)):l.length≤Rows.uptoBulkAll l:=by
 induction l with
 | nil=>simp[Rows.uptoBulkAll]
 | cons x r ih=>have:=DH x;simp only[Rows.uptoBulkAll,List.length_cons];omega
theorem slice_elems{H:Type}(d spare:List (DataW H)):Rows.uptoBulkAll d+1≤Rows.uptoBulk (.slice d spare):=by
 simp only[Rows.uptoBulk];omega
theorem agg_parts{H:Type}(parts:List (DataW H)):Rows.uptoBulkAll parts≤Rows.uptoBulk (.agg parts):=by
 simp only[Rows.uptoBulk];omega
theorem short{H:Type}{s:ByteArray}{p:List MemPlace}{y:DataW H×List MemPlace}(h:y=(.lit (.string s.data.toList),p))(d:Rows.uptoBulk y.1≤1048576):aV s:=by
 subst h;simp only[Rows.uptoBulk]at d;have e:s.data.toList.length=s.size:=Array.length_toList;unfold aV;omega
end bulks
section
variable {H:Type} {enc:TypeId×Value→H} {P:Program} {w:World} {base:Nat} {spare:Nat→Bool} {held:Bool}
theorem yC{e:TypeId}{g:Array Field}{n k:Nat}{cs:List Value}{x:DataW H×List MemPlace}(I:P.underlying e=some (.struct g))
 (l:oneCellFields P g=true)(hk:k=g.size)(E:cs.length=k)(h:DataW.trod enc P w base spare held n e cs=some x):
 ∃C,∀(j:Nat) (f:Field),g[j]?=some f→∃(v:Value) (y:DataW H×List MemPlace),cs[j]?=some v∧Rows.uptoBulk y.1≤Rows.uptoBulk x.1∧DataW.trod enc P w base spare held C f.type [v]=some y:=by
 subst hk;obtain⟨ys,C,L,Q,D,R,J⟩:=DataW.trod_struct I h;refine⟨C,fun j f u=>?_⟩;obtain⟨N,hk⟩:=hone_of l j f u;have K:j<g.size:=(ϱ.1 u).1;have O:cs[j]?=some (cs[j]' χ):=Ez χ;have q:=J j f u;rw[N,hk]at q;have d:(cs.drop j).take 1=[cs[j]' χ]:=by
  rw[List.drop_eq_getElem_cons χ];rfl
 rw[d]at q;have B:ys[j]?=some (ys[j]' χ):=Ez χ;refine⟨_,_,O,?_,q.trans B⟩;rw[Q];exact Δ (bulks.part_le (List.mem_map.2 ⟨_,List.getElem_mem _,rfl⟩)) (bulks.agg_parts _)
end
section
variable {H:Type} {enc:TypeId×Value→H} {W:World} {base:Nat}
inductive Fk where|i|u|s|b|v (t:TypeId)
namespace Fk
def Dom:Fk→Type|i=>Int|u=>Nat|s=>ByteArray|b=>Bool|v _=>Value
def ty:Fk→TypeId|i=>3|u=>41|s=>9|b=>4|v t=>t
def val:(k:Fk)→k.Dom→Value|i,n =>.int .i64 n|u,n =>.int .u64 (show Nat from n)|s,x =>.string x|b,x =>.bool x|v _,x=>x
variable (enc W base) in
def Ok:(k:Fk)→k.Dom→Prop|i,n=>gk n|u,n=>(show Nat from n)<lim|s,x=>aV x|b,_=>True|v t,x=>∃n y,Rows.uptoBulk y.1≤1048576∧DataW.trod enc Tryz.prog W base (fun _=>true) true n t [x]=some y
def Tup:List Fk→Type | []=>Unit|k::r=>k.Dom×Tup r
def vals:(ks:List Fk)→Tup ks→List Value | [],_=>[]|k::r,x=>k.val x.1::vals r x.2
variable (enc W base) in
def Oks:(ks:List Fk)→Tup ks→Prop | [],_=>True|k::r,x=>k.Ok enc W base x.1∧Oks r x.2
theorem one:∀(k:Fk) {v:Value} {y:DataW H×List MemPlace} {n:Nat},Rows.uptoBulk y.1≤1048576→DataW.trod enc Tryz.prog W base (fun _=>true) true n k.ty [v]=some y→∃a:k.Dom,v=k.val a∧k.Ok enc W base a
 | .i,z,y,n,_,t=>by
  obtain⟨a,e,_,w⟩:=DataW.trod_int Tryz.underlying3 t;exact⟨a,List.head_eq_of_cons_eq e,vk w⟩
 | .u,z,y,n,_,t=>by
  obtain⟨a,e,_,w⟩:=DataW.trod_int Tryz.underlying41 t;have:=vj w;exact⟨a.toNat,(List.head_eq_of_cons_eq e).trans (congrArg (Value.int .u64) (show a=(a.toNat:Int) by omega)),show a.toNat<lim by unfold lim;omega⟩
 | .s,z,y,n,hb,t=>by
  obtain⟨a,e,x,_⟩:=DataW.trod_string Tryz.underlying9 t;exact⟨a,List.head_eq_of_cons_eq e,bulks.short x hb⟩
 | .b,z,y,n,_,t=>by
  obtain⟨a,e,_⟩:=DataW.trod_bool Tryz.underlying4 t;exact⟨a,List.head_eq_of_cons_eq e,trivial⟩
 | .v _,x,y,n,hb,t=>⟨x,rfl,n,y,hb,t⟩
theorem ER{n:Nat}:∀(d:List Fk) (cs:List Value),cs.length=d.length→(∀(j:Nat) (k:Fk),d[j]?=some k→∃(v:Value) (y:DataW H×List MemPlace),cs[j]?=some v∧Rows.uptoBulk y.1≤1048576∧DataW.trod enc Tryz.prog W base (fun _=>true) true n k.ty [v]=some y) →
 ∃x:Tup d,cs=vals d x∧Oks enc W base d x
 | [],[],_,_=>⟨(),rfl,trivial⟩
 | k::r,c::cs,hl,h=>by
  obtain⟨v,y,e,u,t⟩:=h 0 k rfl;obtain⟨a,l,g⟩:=one k u t;obtain⟨x,B,w⟩:=ER r cs (by simpa using hl) (fun j k q=>h (j+1) k q);obtain rfl:c=v:=by simpa using e
  exact⟨(a,x),by rw[l,B];rfl,g,w⟩
theorem flat(d:List Fk){e:TypeId}{g:Array Field}{n:Nat}{cs:List Value}{x:DataW H×List MemPlace}(L:Tryz.prog.underlying e=some (.struct g))(u:oneCellFields Tryz.prog g=true)(q:g.toList.map Field.type=d.map ty)(l:cs.length=d.length)
 (K:Rows.uptoBulk x.1≤1048576)(h:DataW.trod enc Tryz.prog W base (fun _=>true) true n e cs=some x):∃x:Tup d,cs=vals d x∧Oks enc W base d x:=by
 have C:d.length=g.size:=by have:=congrArg List.length q;simpa using this.symm
 obtain⟨Q,N⟩:=yC L u rfl (l.trans C) h;refine ER (n:=Q) d cs l fun j k O=>?_
 have D:g.toList[j]?.map Field.type=some k.ty:=by rw[←List.getElem?_map,q,List.getElem?_map,O];rfl
 obtain⟨f,w,B⟩:=Option.map_eq_some_iff.1 D;obtain⟨v,y,E,I,J⟩:=N j f (by simpa using w);exact⟨v,y,E,Δ I K,B▸J⟩
end Fk
variable (enc W base) in
def fK{α:Type}(t:TypeId)(k:Nat)(R:World→Nat→Nat→α→Prop):Prop:=∀(b o m:Nat) (cs:List Value) (x:DataW H×List MemPlace),Rows.uptoBulk x.1≤1048576→W.cells? base ⟨b,o,none⟩ k=some cs →
 DataW.trod enc Tryz.prog W base (fun _=>true) true m t cs=some x→∃s:α,R W b o s
theorem gV{α:Type}{R:World→Nat→Nat→α→Prop}(d:List Fk){e:TypeId}{q:Array Field}(E:Tryz.prog.underlying e=some (.struct q))(l:oneCellFields Tryz.prog q=true)(w:q.toList.map Field.type=d.map Fk.ty)
 (F:∀(b o:Nat) (x:Fk.Tup d),aL W b o (Fk.vals d x)→Fk.Oks enc W base d x→∃s:α,R W b o s):fK enc W base e d.length R:=fun b o m cs x C D h=>by
 obtain⟨_,g,u⟩:=World.cells?_some D;obtain⟨y,rfl,H⟩:=Fk.flat d E l w g C h;refine F b o y (fun j v B=>?_) H;have:=u j (g▸(ο.1 B).1);rw[pU]at this;exact this.trans B
theorem bG{α:Type}{R:World→Nat→Nat→α→Prop}{t e:TypeId}{k:Nat}(C:fK enc W base e k R){v:Value}(hv:Fk.Ok enc W base (.v t) v)(ht:Tryz.prog.underlying t=some (.slice e))(O:Tryz.prog.cellsOf e=k)(H:0<k):∃xs:List α,aM W.heap.size k R W v xs:=by
 obtain⟨L,y,U,h⟩:=hv
 rcases open_slice ht h with⟨g,Z⟩|⟨a,len,q,m,n1,D,Pl,g,af,hl,hm,I,Z,hi⟩
 ·simp at g
  subst g;exact⟨[],none,0,rfl,Γ _,ξ,fun h=>by simp at h⟩
 ·simp at g
  subst g;simp only[if_true]at I;have hB:Rows.uptoBulkAll ((List.range len).map D)+1≤1048576:=Δ (bulks.slice_elems _ _) (by rw[Z]at U;exact U);have Y:len≤1048576:=by have:=bulks.length_le ((List.range len).map D);simp at this;omega
  rcases ϑ len with N|N
  ·subst N
   exact⟨[],_,q,rfl,hl,ξ,fun h=>by simp at h⟩
  ·obtain⟨ad,x,_⟩:=hi 0 χ
   rw[O]at x;obtain⟨_,X,w⟩:=World.cells?_some x;have j:=w 0 H;rw[Ez χ]at j;simp only[Nat.zero_mul]at j;rw[Go.Deep.add_add]at j;obtain⟨b,off,rfl,B,u⟩:=xZ j;obtain⟨xs,K,hq⟩:=CA (Q:=fun i (s:α)=>R W b (off+i*k) s) len (fun i E=>by
    obtain⟨ac,V,J⟩:=hi i χ;rw[O,u]at V;refine C _ _ _ _ _ ?_ V J;have:=bulks.part_le (d:=D i) (l:=(List.range len).map D) (List.mem_map.2 ⟨i,List.mem_range.2 E,rfl⟩);show Rows.uptoBulk (D i)≤_;omega)
   exact⟨xs,some ⟨b,off,none⟩,q,by rw[K],χ,by unfold top;omega,fun _=>⟨b,off,rfl,B,hq⟩⟩
theorem zq:fK enc W base 91 3 BL:=gV [.i,.u,.u] Tryz.underlying91 δ δ fun b o ⟨d,g,h,_⟩ c ⟨j,l,q,_⟩=>⟨⟨d,g,h⟩,c,j,l,q⟩
theorem ss:fK enc W base 93 5 eK:=gV [.i,.s,.u,.b,.b] Tryz.underlying93 δ δ fun b o ⟨d,g,h,j,l,_⟩ c ⟨q,u,v,_,_,_⟩=>⟨⟨d,g,h,j,l⟩,c,q,v,u⟩
theorem sN:fK enc W base 53 10 lX:=gV [.i,.s,.u,.b,.u,.b,.b,.u,.b,.s] Tryz.underlying53 δ δ fun b o ⟨d,g,h,j,l,q,u,v,w,x,_⟩ c ⟨y,B,C,_,D,_,_,E,_,H,_⟩=>⟨⟨d,g,h,j,l,q,u,v,w,x⟩,c,y,C,D,E,B,H⟩
theorem xi:fK enc W base 95 4 pW:=gV [.i,.i,.s,.u] Tryz.underlying95 δ δ fun b o ⟨d,g,h,j,_⟩ c ⟨l,q,u,v,_⟩=>⟨⟨d,g,h,j⟩,c,l,q,v,u⟩
theorem rZ:fK enc W base 97 8 mh:=gV [.i,.s,.s,.s,.b,.s,.i,.u] Tryz.underlying97 δ δ fun b o ⟨d,g,h,j,l,q,u,v,_⟩ c ⟨w,x,y,B,_,C,D,E,_⟩=>⟨⟨d,g,h,j,l,q,u,v⟩,c,w,D,E,x,y,B,C⟩
theorem Ad:fK enc W base 87 6 BO:=gV [.i,.s,.s,.s,.u,.b] Tryz.underlying87 δ δ fun b o ⟨d,g,h,j,l,q,_⟩ c ⟨u,v,w,x,y,_,_⟩=>⟨⟨d,g,h,j,l,q⟩,c,u,y,v,w,x⟩
theorem uc:fK enc W base 89 6 rj:=gV [.i,.s,.s,.s,.i,.u] Tryz.underlying89 δ δ fun b o ⟨d,g,h,j,l,q,_⟩ c ⟨u,v,w,x,y,B,_⟩=>⟨⟨d,g,h,j,l,q⟩,c,u,y,B,v,w,x⟩
theorem zW:fK enc W base 99 4 nG:=gV [.i,.s,.u,.u] Tryz.underlying99 δ δ fun b o ⟨d,g,h,j,_⟩ c ⟨l,q,u,v,_⟩=>⟨⟨d,g,h,j⟩,c,l,u,v,q⟩
theorem mC:fK enc W base 47 2 mg:=gV [.i,.s] Tryz.underlying47 δ δ fun b o ⟨d,g,_⟩ c ⟨h,j,_⟩=>⟨⟨d,g⟩,c,h,j⟩
theorem B8:fK enc W base 101 3 BQ:=gV [.i,.s,.s] Tryz.underlying101 δ δ fun b o ⟨d,g,h,_⟩ c ⟨j,l,q,_⟩=>⟨⟨d,g,h⟩,c,j,l,q⟩
theorem tn:fK enc W base 65 5 (lZ W.heap.size):=gV [.i,.s,.u,.u,.v 42] Tryz.underlying65 δ δ fun b o ⟨d,g,h,j,l,_⟩ c ⟨u,v,w,x,y,_⟩=>by
 obtain⟨B,q⟩:=bG ss y Tryz.underlying42 δ ψ;exact⟨⟨d,g,h,j,B⟩,l,c,q,u,w,x,v⟩
theorem rA:fK enc W base 45 6 (jy W.heap.size):=gV [.i,.s,.u,.b,.v 42,.v 43] Tryz.underlying45 δ δ fun b o ⟨d,g,h,j,l,q,_⟩ c ⟨w,x,y,_,B,C,_⟩=>by
 obtain⟨D,u⟩:=bG ss B Tryz.underlying42 δ ψ;obtain⟨E,v⟩:=bG xi C Tryz.underlying43 δ ψ;exact⟨⟨d,g,h,j,D,E⟩,l,q,c,u,v,w,y,x⟩
theorem yO:fK enc W base 71 4 (iu W.heap.size):=gV [.i,.u,.b,.v 69] Tryz.underlying71 δ δ fun b o ⟨d,g,h,j,_⟩ c ⟨q,u,_,v,_⟩=>by
 obtain⟨w,l⟩:=bG zW v Tryz.underlying69 δ ψ;exact⟨⟨d,g,h,w⟩,j,c,l,q,u⟩
theorem xq:fK enc W base 68 4 (rm W.heap.size):=gV [.i,.s,.u,.v 66] Tryz.underlying68 δ δ fun b o ⟨d,g,h,j,_⟩ c ⟨q,u,v,w,_⟩=>by
 obtain⟨x,l⟩:=bG yO w Tryz.underlying66 δ ψ;exact⟨⟨d,g,h,x⟩,j,c,l,q,v,u⟩
theorem sR{r:Reach}{Z:Nat}{v:Value}{d:DataW H}{U:List MemPlace}(g:Value.okWide Tryz.prog W r Z 33 v)(D:DataW.Trod enc Tryz.prog W base (fun _=>true) true 33 v d U)(hb:Rows.uptoBulk d≤1048576):
 ∃(V:ae) (P:Ck.aF),v=.agg (V.cells P).toArray∧bD W.heap.size W V P:=by
 obtain⟨cs,rfl,C⟩:=okWide_struct Tryz.underlying33 g;obtain⟨R,D⟩:=D;have e:Tryz.prog.cellsOf 33=14:=δ
 obtain⟨⟨X,Y,v2,v3,v4,v5,v6,v7,v8,v9,E,I,J,K,_⟩,ec,h0,h1,h2,h3,h4,h5,h6,h7,h8,h9,u,w,y,B,_⟩:=Fk.flat (cs:=cs.toList) (x:=(d,U)) [.i,.s,.v 22,.v 23,.v 24,.v 25,.v 26,.v 27,.v 28,.v 29,.v 30,.v 30,.v 30,.v 31] Tryz.underlying33 δ δ (by simp[C,e]) hb D;obtain⟨x2,g2⟩:=bG zq h2 Tryz.underlying22 δ ψ;obtain⟨x3,g3⟩:=bG tn h3 Tryz.underlying23 δ ψ;obtain⟨x4,g4⟩:=bG sN h4 Tryz.underlying24 δ ψ;obtain⟨x5,g5⟩:=bG rA h5 Tryz.underlying25 δ ψ;obtain⟨x6,g6⟩:=bG rZ h6 Tryz.underlying26 δ ψ;obtain⟨x7,g7⟩:=bG Ad h7 Tryz.underlying27 δ ψ;obtain⟨x8,g8⟩:=bG uc h8 Tryz.underlying28 δ ψ;obtain⟨x9,g9⟩:=bG xq h9 Tryz.underlying29 δ ψ;obtain⟨L,h⟩:=bG mC u Tryz.underlying30 δ ψ;obtain⟨N,j⟩:=bG mC w Tryz.underlying30 δ ψ;obtain⟨O,l⟩:=bG mC y Tryz.underlying30 δ ψ;obtain⟨Q,q⟩:=bG B8 B Tryz.underlying31 δ ψ;exact⟨⟨v2,v3,v4,v5,v6,v7,v8,v9,E,I,J,K⟩,⟨X,Y,x2,x3,x4,x5,x6,x7,x8,x9,L,N,O,Q⟩,congrArg Value.agg (Array.ext' ec),g2,g3,g4,g5,g6,g7,g8,g9,h,j,l,q,h0,h1⟩
end
end Go.Proofs.YthobcefghkeddaaGreatDoor
namespace Go.Proofs.YthobcefghkeddaaGreatDoor
def vd:MemPlace→Nat
 | .cell b off=>(b*512+off)*2
 | .map b=>b*2+1
def sq:List MemPlace→Nat→Bool
 | [],_=>true
 | x::xs,m =>!m.testBit (vd x)&&sq xs (m ||| 1 <<< vd x)
theorem oY:∀(xs:List MemPlace) (m:Nat),sq xs m=true→xs.Nodup∧∀x∈xs,m.testBit (vd x)=false
 | [],m,_=>⟨List.nodup_nil,fun x h=>by cases h⟩
 | x::xs,m,h=>by
  simp only[sq,Bool.and_eq_true,Bool.not_eq_true']at h;obtain⟨j,g⟩:=oY xs _ h.2;refine⟨List.nodup_cons.2 ⟨fun l=>?_,j⟩,fun y d=>?_⟩
  ·have:=g x l
   rw[Nat.testBit_or,Nat.one_shiftLeft,Nat.testBit_two_pow_self]at this;simp at this
  ·rcases Ξ.1 d with rfl|d
   ·exact h.1
   ·have:=g y d
    rw[Nat.testBit_or,Bool.or_eq_false_iff]at this;exact this.1
theorem nN{P:Program}{w:World}{l:List (String×DataW Unit)}(d:Nat)(h:(DataW.laidRun P w d (l.map (·.1))).map (·.1)=some l)
 (j:(DataW.laidRun P w d (l.map (·.1))).map (fun x=>laidRowsB P w x.2)=some true)(g:(DataW.laidRun P w d (l.map (·.1))).map (fun x=>sq x.2 0)=some true):laidMet P l w:=by
 cases hx:DataW.laidRun P w d (l.map (·.1))with
 | none=>simp[hx]at h
 | some x =>
  obtain⟨u,q⟩:=x;simp only[hx,Option.map_some,Option.some.injEq]at h j g;subst h;exact laidMet_of_run d hx (decide_eq_true (oY q 0 g).1) j
open Go.Lib Go.RowKit
variable {W:World} {g:Nat}
theorem vP(h:laidMetH Tryz.prog Rows.placeNamesRow.laid W):
 laidMet Tryz.prog (Rows.placeNamesRow.laid.filter fun x=>x.2.handleName?.isNone) W∧handlesMet Tryz.prog [("errors.errorType",Rows.laid_errors_errorType)] W:=by
 have e:Rows.placeNamesRow.laid.filter (fun x=>x.2.handleName?.isSome)=[("errors.errorType",Rows.laid_errors_errorType)]:=δ
 unfold laidMetH at h;simp only[e]at h;exact h
theorem Av:((List.range Tryz.prog.types.size).filter fun t=>Tryz.prog.rowNamed t [101,114,114,111,114])=[75]:=δ
theorem yd(h:handlesMet Tryz.prog [("errors.errorType",Rows.laid_errors_errorType)] W):pZ W:=by
 have d:Tryz.prog.globalNamed "errors.errorType" = some 0:=δ
 have g:(Tryz.prog.cutTypes.find? (·.1 == "internal/reflectlite.rtype")).map (·.2)=some 231:=δ
 obtain⟨name,u,ty,q,v,e3,e4,j⟩:=h _ (ρ.2 rfl);have w:name=[101,114,114,111,114]:=(ι q).symm;subst w;obtain rfl:=ι (g.symm.trans v);have l:ty∈(List.range Tryz.prog.types.size).filter fun t=>Tryz.prog.rowNamed t [101,114,114,111,114]:=List.mem_filter.2 ⟨List.mem_range.2 e3,e4⟩
 rw[Av]at l;obtain rfl:=ρ.1 l;have hh:typeHandle Tryz.prog 75=.pointer (some ⟨13,75,none⟩):=δ
 rw[hh]at j;unfold pZ
 simpa using World.var?_cell d j 0
theorem lh{n:String}{k:IntKind}{y:List Int}{m:Nat}{t e:TypeId}(D:Tryz.prog.globalNamed n=some g)(w:(Tryz.prog.globals[g]?).map (·.type)=some t)
 (E:Tryz.prog.underlying t=some (.array m e))(C:Tryz.prog.underlying e=some (.int k))(l:Tryz.prog.cellsOf e=1)(u:Tryz.prog.cellsOf t=m)(h:VarReads Tryz.prog W n (tabData k y)):TabIs Tryz.prog W n k y:=by
 obtain⟨H,t',cs,x,p,v,d,j,B⟩:=h;obtain rfl:=ι (D.symm.trans v);obtain rfl:=ι (w.symm.trans d);have q:=cells_of_tab E C l u B;unfold TabIs;rw[j];exact congrArg some (Array.ext' q)
theorem mz{W:World}{n:String}{t:TypeId}{g:Nat}{ms:Array (String×TypeId)}{d:DataW Unit}(y:Tryz.prog.globalNamed n=some g)(x:(Tryz.prog.globals[g]?).map (·.type)=some t)
 (D:Tryz.prog.underlying t=some (.interface ms))(h:VarReads Tryz.prog W n d):∃v,W.cell? ⟨g,0,none⟩=some v∧wG v:=by
 obtain⟨H,t',cs,j,p,w,l,q,u⟩:=h;obtain rfl:=ι (y.symm.trans w);obtain rfl:=ι (x.symm.trans l);have B:=World.var?_cell y q 0
 cases j with
 | zero=>simp[DataW.trod]at u
 | succ j =>
  have:∃v,cs.toList=[v]∧wG v:=by
   simp only[DataW.trod,D]at u;split at u<;>simp_all [wG]
  obtain⟨v,E,C⟩:=this;have e:cs = #[v]:=Array.ext' E;subst e;exact⟨v,B,C⟩
theorem qM{n:String}{k:IntKind}{l:List Int}{w w':World}(u:Tryz.prog.globalNamed n=some g)(h:TabIs Tryz.prog w n k l)(q:Below w.heap.size w w'):TabIs Tryz.prog w' n k l:=by
 unfold TabIs World.var? at h⊢;rw[u]at h⊢;simp only[Option.bind_some]at h⊢;have j:g<w.heap.size:=by
  rcases Ψ g w.heap.size with d|d
  ·exact d
  ·rw[Array.getElem?_eq_none d]at h;cases h
 rw[q.block g j];exact h
theorem jm.below{w w':World}(h:jm jg w)(x:Below w.heap.size w w'):jm jg w':=by
 have lt:∀{a:Addr} {v:Value},w.cell? a=some v→a.block<w.heap.size:=fun{a v} l=>by
  rcases Ψ a.block w.heap.size with u|u
  ·exact u
  ·simp[World.cell?,Array.getElem?_eq_none u]at l
 have keep:∀{a:Addr} {v:Value},w.cell? a=some v→w'.cell? a=some v:=fun{a v} l=>(x.cell (lt l)).trans l
 refine⟨fun i hi=>keep (h.QT i hi),qM (g:=2) δ h.space x,?_,qM (g:=5) δ h.pow x,?_,?_,?_⟩
 ·obtain⟨p,q,B,C,D⟩:=h.white
  exact⟨p,q,keep B,fun j v d=>keep (C j v d),fun i hi=>keep (D i hi)⟩
 ·obtain⟨m,E⟩:=h.max
  exact⟨m,keep E⟩
 ·obtain⟨v,d,y⟩:=h.e3
  exact⟨v,keep d,y⟩
 ·obtain⟨v,d,y⟩:=h.e4
  exact⟨v,keep d,y⟩
theorem vO(h:laidMetH Tryz.prog Rows.placeNamesRow.laid W)(x:W.ShapedOpen Tryz.prog):iH W.heap.size W:=by
 obtain⟨N,hh⟩:=vP h;have l:∀{n:String} {d:DataW Unit},(n,d)∈Rows.placeNamesRow.laid→d.handleName?.isNone=true→VarReads Tryz.prog W n d:=fun O Q=>laidMet.reads N (List.mem_filter.2 ⟨O,Q⟩)
 have u:TabIs Tryz.prog W "bulkhead/scan.classes" .u8 ((List.range 128).map fun i=>(jg i:Int)):=
  lh (g:=1) (t:=308) (e:=5) (m:=128) δ δ δ δ δ δ
   ((show Rows.laid_bulkhead_scan_classes=tabData .u8 ((List.range 128).map fun i=>(jg i:Int)) by kernel_rfl)▸l (n := "bulkhead/scan.classes") (d:=Rows.laid_bulkhead_scan_classes) (.tail _ (.tail _ (.tail _ (.tail _ (.tail _ (.tail _ (.tail _ (.tail _ (.tail _ (.head _)))))))))) δ)
 have w:TabIs Tryz.prog W "internal/strconv.uint64pow10" .u64 pow10Tab:=
  lh (g:=5) (t:=341) (e:=41) (m:=20) δ δ δ δ δ δ
   ((show Rows.laid_internal_strconv_uint64pow10=tabData .u64 pow10Tab by kernel_rfl)▸l (n := "internal/strconv.uint64pow10") (d:=Rows.laid_internal_strconv_uint64pow10) (.tail _ (.tail _ (.head _))) δ)
 have y:TabIs Tryz.prog W "strings.asciiSpace" .u8 asciiSpaceTab:=
  lh (g:=2) (t:=332) (e:=5) (m:=256) δ δ δ δ δ δ
   ((show Rows.laid_strings_asciiSpace=tabData .u8 asciiSpaceTab by kernel_rfl)▸l (n := "strings.asciiSpace") (d:=Rows.laid_strings_asciiSpace) (.tail _ (.tail _ (.tail _ (.tail _ (.tail _ (.tail _ (.tail _ (.tail _ (.head _))))))))) δ)
 have C:WhiteTab 7 W:=whiteTab_of_reads Tryz.lays199 ⟨δ,δ,δ,δ,δ,δ,δ,δ⟩
  ((show Rows.laid_unicode_White_Space=whiteData by kernel_rfl)▸l (n := "unicode.White_Space") (d:=Rows.laid_unicode_White_Space) (.tail _ (.tail _ (.tail _ (.tail _ (.tail _ (.tail _ (.tail _ (.head _)))))))) δ)
 have K:jm jg W:={
  QT:=fun i hi=>by
   have:=u.cell (g:=1) δ i (by simpa using hi);rw[this];simp[List.getD,hi]
  space:=y
  white:=by
   obtain⟨T,X,R,V,D,E,H,I,J⟩:=C;refine⟨(T,X),(R,V),D,fun j v q=>?_,J⟩
   match j,q with
   | 0,q=>obtain rfl:=ι q;exact E
   | 1,q=>obtain rfl:=ι q;exact H
   | 2,q=>obtain rfl:=ι q;exact I
   | j+3,q=>simp at q
  pow:=w
  max:=cell_of_shapedOpen_int (g:=6) (t:=3) (zero := #[.int .i64 0]) x (of_decide_eq_true δ) δ rfl δ δ Tryz.underlying3
  e3:=mz (g:=3) (t:=75) (ms:=_) δ δ (Tryz.underlying75) (l (n := "strconv.ErrSyntax") (d:=Rows.laid_strconv_ErrSyntax) (.tail _ (.tail _ (.tail _ (.tail _ (.tail _ (.tail _ (.head _))))))) δ)
  e4:=mz (g:=4) (t:=75) (ms:=_) δ δ (Tryz.underlying75) (l (n := "strconv.ErrRange") (d:=Rows.laid_strconv_ErrRange) (.tail _ (.tail _ (.tail _ (.tail _ (.tail _ (.head _)))))) δ) }
 have B:13<W.heap.size:=by
  obtain⟨o,_,U,_⟩:=x.2 13 (of_decide_eq_true δ) (of_decide_eq_true δ);exact(ϱ.1 U).1
 exact⟨B,yd hh,fun w' L=>K.below L⟩
end Go.Proofs.YthobcefghkeddaaGreatDoor
namespace Go.Proofs.YthobcefghkeddaaGreatDoor.names
open Go.ChangeShapes Go.WideShapes Go.ChangeAt Go.RowKit
def put(h:Array Obj)(g:Nat)(cs:Array Value):Array Obj:=h.modify g fun
 | .cells _ t frozen =>.cells cs t frozen
 | o=>o
def tab:DataW Unit→List Value
 | .agg l=>l.map fun d=>match d with|.lit (.int k n)=>Value.int k n|_ =>.nilIface
 | _=>[]
noncomputable def mN(os:Os):World:=
 let N:=(World.settled Tryz.prog os).heap.size
 let w0:=World.holding Tryz.prog os ⟨#[.cells (Lib.whiteT.map fun(z:Nat)=>Value.int .u16 (z:Int)).toArray (Tryz.lays199_ren.t 198),.cells #[.slice (some ⟨N,0,none⟩) 7 7,.slice none 0 0,.int .i64 2] (Tryz.lays199_ren.t 196),
  .cells #[.string ⟨#[105,110,118,97,108,105,100,32,115,121,110,116,97,120]⟩] 354,.cells #[.string ⟨#[118,97,108,117,101,32,111,117,116,32,111,102,32,114,97,110,103,101]⟩] 354], #[],[]⟩
 let h0:=put w0.heap 0 #[.iface 231 (.agg #[.pointer (some ⟨13,75,none⟩)])]
 let h1:=put h0 1 ((List.range 128).map fun i=>Value.int .u8 (jg i)).toArray
 let h2:=put h1 2 (Lib.asciiSpaceTab.map fun z=>Value.int .u8 z).toArray
 let h3:=put h2 3 #[.iface 352 (.pointer (some ⟨N+2,0,none⟩))]
 let h4:=put h3 4 #[.iface 352 (.pointer (some ⟨N+3,0,none⟩))]
 let h5:=put h4 5 (Lib.pow10Tab.map fun z=>Value.int .u64 z).toArray
 let h7:=put h5 7 #[.pointer (some ⟨N+1,0,none⟩)]
 let h8:=put h7 8 (Lib.firstTab.map fun z=>Value.int .u8 z).toArray
 let h9:=put h8 9 ((List.range 16).flatMap fun i=>[Value.int .u8 (Lib.accLo i),Value.int .u8 (Lib.accHi i)]).toArray
 let h10:=put h9 10 (tab Rows.laid_math_bits_deBruijn32tab).toArray
 let h11:=put h10 11 (tab Rows.laid_math_bits_deBruijn64tab).toArray
 { w0 with heap:=h11 }
noncomputable abbrev wl (os:Os):World:=(mN os).forCall (fun _ _=>0) ⟨#[], #[],[]⟩
theorem wl1(os:Os):(DataW.laidRun Tryz.prog (wl os).memory 10 ((Rows.placeNamesRow.laid.filter fun x=>x.2.handleName?.isNone).map (·.1))).map (·.1)=some (Rows.placeNamesRow.laid.filter fun x=>x.2.handleName?.isNone):=δ
theorem wl2(os:Os):(DataW.laidRun Tryz.prog (wl os).memory 10 ((Rows.placeNamesRow.laid.filter fun x=>x.2.handleName?.isNone).map (·.1))).map (fun x=>laidRowsB Tryz.prog (wl os).memory x.2)=some true:=δ
theorem wl3(os:Os):(DataW.laidRun Tryz.prog (wl os).memory 10 ((Rows.placeNamesRow.laid.filter fun x=>x.2.handleName?.isNone).map (·.1))).map (fun x=>sq x.2 0)=some true:=δ
theorem wl4(os:Os):(Rows.placeNamesRow.laid.filter fun x=>x.2.handleName?.isSome).all (handleAtB Tryz.prog (wl os).memory)=true:=δ
theorem oh(os:Os):laidMetH Tryz.prog Rows.placeNamesRow.laid (wl os).memory:=
 laidMetH_of_parts (nN 10 (wl1 os) (wl2 os) (wl3 os)) (wl4 os)
theorem BU(os:Os):(wl os).variablesRefB Tryz.checked.prog=true:=δ
theorem BV(os:Os):((wl os).heap.toList.drop Tryz.checked.prog.globals.size).take ((begin Tryz.checked.prog (fun _ _=>0) default).world.heap.size-Tryz.checked.prog.globals.size)=(begin Tryz.checked.prog (fun _ _=>0) default).world.heap.toList.drop Tryz.checked.prog.globals.size:=δ
end Go.Proofs.YthobcefghkeddaaGreatDoor.names
namespace Go.Proofs.YthobcefghkeddaaGreatDoor.placeRoomUptoFacts
open Go
noncomputable abbrev P:=Tryz.pinned.checked.prog
abbrev f:Nat:=5
noncomputable abbrev fn:=Tryz.f5
noncomputable abbrev s:ChangeSpec:=(Rows.OpenSpec.upto Rows.placeRoomSpec).bare
noncomputable abbrev c:=Rows.placeRoomUptoRow
theorem j0:(c.wf (OpenSpec.ofChange s))=true:=δ
theorem j1:(laidOutB P)=true:=δ
theorem j2:(mapsRowed P)=true:=δ
theorem j3:(fn.params.all (P.readableRec ·))=true:=δ
theorem j4:(namedTie P c.named s.vars)=true:=δ
theorem j5:((c.stops==[]))=true:=δ
theorem j6:((P.stops==[]))=true:=δ
theorem j7:((c.knobs==[]))=true:=δ
theorem j8:((P.stopKnobs==[]))=true:=δ
theorem j9:((c.inPlace==P.inPlace f))=true:=δ
theorem j10:((c.unfollowed==P.unfollowed f))=true:=δ
theorem j11:((c.recurses==P.recurses f))=true:=δ
theorem j12:((c.named==P.varsNamed f))=true:=δ
theorem j13:((c.maps==(fn.params.toList++s.plain.varTypes P).any (P.mapsRec ·)))=true:=δ
theorem j14:((c.ifaces==(fn.params.toList++s.plain.varTypes P).any (P.ifacesRec ·)))=true:=δ
theorem j15:((c.mapsOut==P.mapsAmong fn.resultTypes.toList))=true:=δ
theorem j16:((c.loops==(fn.params.toList++s.plain.varTypes P).any (P.loopsFrom ·)))=true:=δ
theorem j17:((c.wideKeys==(fn.params.toList++s.plain.varTypes P++fn.resultTypes.toList).any (P.wideKeysFrom ·)))=true:=δ
theorem j18:(s.vars.all (P.varReadable ·))=true:=δ
theorem j19:(fn.resultTypes.all (fun t=>P.readableRec t&&decide (t<P.types.size)))=true:=δ
theorem j20:((c.ifacesOut==fn.resultTypes.toList.any (P.ifacesRec ·)))=true:=δ
theorem j21:((c.loopsOut==fn.resultTypes.toList.any (P.loopsFrom ·)))=true:=δ
theorem j22:((c.plainKeys==P.plainKeys))=true:=δ
theorem j23:(c.shortTexts.isNone)=true:=δ
theorem j24:(P.stopsHeard)=true:=δ
theorem j25:(P.mayEnter)=true:=δ
theorem j26:((c.lifted==P.liftsFinal))=true:=δ
theorem j27:((P.make==some c.make))=true:=δ
theorem j28:((c.kinds==(if c.domain.isEmpty then[]else fn.params.toList.map fun t=>match P.underlying t with|some (.int k)=>some k|_=>none)))=true:=δ
theorem j29:((c.pinned==c.pinnedBy))=true:=δ
theorem j30:((c.veiled==(fn.params.toList++s.plain.varTypes P++fn.resultTypes.toList).any (P.veiledRec ·)))=true:=δ
theorem j31:(c.veiledFits P fn.params.toList (fn.params.toList++s.plain.varTypes P++fn.resultTypes.toList))=true:=δ
theorem du{a b:Bool}(h:a=true)(k:b=true):(a&&b)=true:=by rw[h,k];rfl
theorem closed:joinedFacts P f fn s c=true:=by
 unfold joinedFacts;exact(du (du (du (du (du (du (du (du (du (du (du (du (du (du (du (du (du (du (du (du (du (du (du (du (du (du (du (du (du (du (du j0 j1) j2) j3) j4) j5) j6) j7) j8) j9) j10) j11) j12) j13) j14) j15) j16) j17) j18) j19) j20) j21) j22) j23) j24) j25) j26) j27) j28) j29) j30) j31)
end Go.Proofs.YthobcefghkeddaaGreatDoor.placeRoomUptoFacts
namespace Go.Proofs.YthobcefghkeddaaGreatDoor.roomy
open Go.ChangeShapes Go.WideShapes Go.ChangeAt Go.RowKit
theorem own:ownKnob Tryz.prog.godebug=none:=δ
theorem CF:laidOutB Tryz.prog=true:=δ
theorem pJ(H:Type)(enc:TypeId×Value→H)(W:World)(base:Nat)(args:Array Value)(w J:List (DataW H))(d:List MemPlace)
 (g:∀(j:Nat) t v,Tryz.f5.params[j]?=some t→args[j]?=some v→Value.okWide Tryz.prog W .any base t v)
 (L:DataW.Whole enc Tryz.prog Tryz.f5.params.toList Rows.placeRoomSpec.vars false W args.toList w J d)(R:laidMetH Tryz.prog Rows.placeNamesRow.laid W)(E:W.ShapedOpen Tryz.prog)(hk:Rows.uptoSmall H (w++J)=true):
 Calls Tryz.prog 5 args W fun e W'=>∃v,e=.returned v∧Rows.placeRoomSpec.post enc Tryz.prog Tryz.f5 false true false false W args v W':=by
 have B:=L;obtain⟨p,q,u,U,rfl,Z,ac⟩:=L;have K:DataW.TrodAll enc Tryz.prog W 0 (fun _=>true) true Tryz.f5.params.toList args.toList w p:=u;rw[Tryz.params5]at K g;obtain⟨N,ad,O,Q,p0,q0,C,rfl,rfl,y,r0⟩:=trodAll_cons K;obtain⟨rfl,rfl,rfl⟩:=trodAll_nil r0;obtain rfl:args = #[N]:=by cases args;simp_all
 obtain⟨rfl,rfl⟩:=trodVars_none U;have X:Rows.uptoBulk O≤1048576:=by simpa[Rows.uptoSmall,Rows.uptoBulkAll]using hk
 have I:∀x∈p0,x.block<W.heap.size:=by obtain⟨m,hm⟩:=y;exact DataW.trod_lt m _ _ _ hm
 obtain⟨V,P,rfl,hp⟩:=sR (g 0 33 N rfl rfl) y χ;clear u;refine(Rs.pj hp (vO R E) (Γ _)).mono fun e W' ⟨Y,D⟩=>?_
 subst Y;have l:Below W.heap.size W W':=D.below (Γ _) (fun _ _ e=>e);exact⟨_,rfl,_,_,_,[],_,[],B,trodAll_mk1 (shut_bool Tryz.underlying4 _),trodAll_cons_mk (Below.trod CF δ (of_decide_eq_true δ) y l I) trodAll_mk0,rfl,l.frame _,fun h=>by cases h⟩
def BC:Array Value := #[.agg #[.int .i64 0,.string { data := #[] },.slice none 0 0,.slice none 0 0,.slice none 0 0,.slice none 0 0,.slice none 0 0,.slice none 0 0,.slice none 0 0,.slice none 0 0,.slice none 0 0,.slice none 0 0,.slice none 0 0,.slice none 0 0]]
noncomputable abbrev wl (os:Os):World:=(names.mN os).forCall (fun _ _=>0) ⟨#[],BC,[]⟩
theorem oh(os:Os):laidMetH Tryz.prog Rows.placeRoomUptoRow.laid (wl os).memory:=names.oh os
theorem reads(os:Os){H:Type}(enc:TypeId×Value→H):∃x,DataW.whole enc Tryz.prog (wl os).memory Tryz.f5.params.toList Rows.placeRoomSpec.vars false BC.toList 8=some x∧Rows.uptoSmall H (x.1++x.2.1)=true:=
 ⟨([.agg [.lit (.int .i64 0),.lit (.string []),.nil,.nil,.nil,.nil,.nil,.nil,.nil,.nil,.nil,.nil,.nil,.nil]],[],[]),δ,δ⟩
theorem lifted(os:Os)(h:os.Started)(H:Type)(enc:TypeId×Value→H)(F:Stop.Interp):
 ReturnsInHanded {} Tryz.checked os 5 .any ((Rows.OpenSpec.upto Rows.placeRoomSpec).preRow enc Tryz.prog Tryz.f5 Rows.placeRoomUptoRow.domain false Rows.placeRoomUptoRow.laid) (((Rows.OpenSpec.upto Rows.placeRoomSpec).at F).post enc Tryz.prog Tryz.f5 false true false false):=by
 obtain⟨x,y,w⟩:=reads os enc;refine returnsInHanded_of_row (C:=Tryz.checked) (s:=Rows.OpenSpec.upto Rows.placeRoomSpec) own h δ Tryz.func5
  (witness_row_atRef (enc:=enc) (C:=Tryz.checked) false (names.mN os) BC rfl (names.BU os) (names.BV os) δ
   (OpenSpec.preRow_of_cond 8 y δ (fun k hk=>by cases hk;exact w) δ (oh os))) ?_
 intro W base args l q d g v B D I u j E
 first|exact pJ H enc W base args l q d g v u j (E _ rfl)|exact pJ H enc W base args l q d g v u j (D _ rfl)|exact pJ H enc W base args l q d g v u j (B _ rfl)
theorem Es:Rows.PlaceRoomUptoSaid:=
 OpenClaim.holds_of_cond 5 Tryz.f5 rfl rfl rfl rfl rfl rfl rfl ⟨rfl,rfl,rfl,rfl,rfl⟩ rfl rfl rfl rfl rfl δ Tryz.func5 placeRoomUptoFacts.closed
  (of_decide_eq_true δ) (by unfold Func.isWrapper;first|(rw[if_pos (by decide +kernel)];kernel_rfl)|(rw[if_neg (by decide +kernel)];exact⟨rfl,rfl⟩))
  (fun os d H enc _ F=>by rw[OpenClaim.pre_eq_preRow];exact lifted os d H enc F)
theorem plain(f:FuncId)(fn:Func)(h:Tryz.pinned.checked.prog.funcNamed "bulkhead/bulkheadlaw11.PlaceRoom" = some f)(d:Tryz.pinned.checked.prog.funcs[f]?=some fn):
 true=Tryz.pinned.checked.prog.looks []∧∀(j:Nat) t,fn.params[j]?=some t→Tryz.pinned.checked.prog.wantsStandIn t=false:=by
 obtain rfl:f=5:=ι ((show Tryz.prog.funcNamed "bulkhead/bulkheadlaw11.PlaceRoom" = some 5 by kernel_rfl).symm.trans h) |>.symm;obtain rfl:fn=Tryz.f5:=(ι (Tryz.func5.symm.trans d)).symm;refine⟨δ,fun j t g=>?_⟩;rw[Tryz.params5]at g;obtain rfl:j=0:=by have:=(ϱ.1 g).1;simp at this;omega
 obtain rfl:33=t:=ι g
 kernel_rfl
theorem placeRoom_holds:Rows.PlaceRoomUptoCardSaid:=
 Claim7.holds_tied_plain_at .later [] _ _ _ _ Es (fun _ h=>by cases h) δ (fun _ h=>by cases h) placeRoomUpto_row_tie rfl ⟨rfl,rfl⟩ δ rfl plain δ
