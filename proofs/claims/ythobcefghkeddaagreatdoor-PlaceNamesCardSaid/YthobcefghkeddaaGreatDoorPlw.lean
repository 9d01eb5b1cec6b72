import Derived.Test.YthobcefghkeddaaGreatDoorPl5
import Derived.Test.YthobcefghkeddaaGreatDoorWho
set_option maxRecDepth 100000
set_option linter.all false
set_option maxHeartbeats 4000000
namespace Go.Proofs.YthobcefghkeddaaGreatDoor.Rs
open Go.RowKit Go.Proofs.YthobcefghkeddaaGreatDoor Ck
variable {w w0:World} {b:Nat} {φ:Nat→Prop}
def wB(P:Program)(C:Ctx)(N:Nat)(l:List Oper)(s:St)(c:Nat)(f:FuncId)(r:Nat)(v1 v2:SV)(F1:Fr):Bool:=
 dvB P C N l s c (c+1) F1&&(Nat.beq l.length (c+2)&&match l[c]?,l[c+1]? with
  | some ⟨some d,.call ⟨.value (.func g),xs,ts⟩,ty,ps,af,gd⟩,some ⟨none,.store E (.tmp t) (.tmp y),_,_,_,none⟩ =>
   match xs.toList with
   | [.tmp x1,.tmp x2]=>Nat.beq g f&&(gD P f&&(Nat.beq y d&&(Nat.ble (d+1) N&&(Nat.beq (P.cellsOf E) 1&&((match gt (iz l ⟨some d,.call ⟨.value (.func g),xs,ts⟩,ty,ps,af,gd⟩ F1) x1 with|some v=>SV.same v v1|none=>false)&&((match gt (iz l ⟨some d,.call ⟨.value (.func g),xs,ts⟩,ty,ps,af,gd⟩ F1) x2 with|some v=>SV.same v v2|none=>false) &&
    (match gt F1 t with|some v=>SV.same v (.one (.p r 0))|none=>false)))))))
   | _=>false
  | _,_=>false)
theorem CM{S:Sta}{N:Nat}{P:Program}{C:Ctx}{H:Gh}{id:Nat}{ops:Array Oper}{rest:List Code}{Q:Exit→Act→World→Prop}{s:St}{κ:Kap}{a:Act}(c:Nat)(f:FuncId)(r:Nat)(v1 v2:SV)(F1:Fr)(φ:Nat→Prop)(w0:World)(b:Nat)(hP:P.follows .mixedOrders=true)
 (hB:wB P C N ops.toList s c f r v1 v2 F1=true)(hn:Now S κ N P C H s a w)(hκ:κ r=(b,0))(V:∃v,Row w b [v])(h0:w0.heap.size≤w.heap.size)
 (hf:∀w',Kz w w'→Calls P f #[v1.den S κ,v2.den S κ] w' (jS w' φ))
 (hQ:∀j w',Has S κ N F1 j→lG w0 b φ w'→aD (fun g=>g=b) w w'→j.defers=a.defers→wpL P Q rest j w'):wpL P Q (Code.region id ops true::rest) a w:=by
 obtain⟨l,hl⟩:∃l,l=ops.toList:=⟨_,rfl⟩;obtain rfl:ops=l.toArray:=by rw[hl]
 rw[←hl]at hB;clear hl;simp only[wB,Bool.and_eq_true]at hB;obtain⟨hd,D,L⟩:=hB;have D:=Nat.eq_of_beq_eq_true D;split at L
 ·rename_i d g xs ts ty ps af gd E t y q1 q2 q3 e1 e2
  split at L
  ·rename_i Y Z ac
   simp only[Bool.and_eq_true]at L;obtain⟨m1,m2,m3,m4,m5,m6,m7,m8⟩:=L;have m1:=Nat.eq_of_beq_eq_true m1;have m3:=Nat.eq_of_beq_eq_true m3;have m4:=Nat.le_of_ble_eq_true m4;have m5:=Nat.eq_of_beq_eq_true m5;subst m1 m3;obtain rfl:xs = #[.tmp Y,.tmp Z]:=Array.ext' ac;obtain⟨v,hv⟩:=V;refine vl c (c+1) F1 (fun _ w' u'=>∃u l,u'=.agg #[u]∧av w' u l∧(∀q,q<w.heap.size→aJ w' q u l)∧dV l∧∀q,aY l q↔φ q) hP hd hn (fun _ w' an _ hk ⟨u,l,h1,h2,h3,h4⟩=>⟨u,l,h1,h2.keep hk,fun q hq=>aJ.keep (h3 q hq) (hk.mono fun _ _ h=>h.elim),h4⟩) (fun i o h2 h5 U j w' K hk J X hK=>?_) fun o U j w' hk I J X=>?_
   ·obtain rfl:i=c:=χ
    rw[e1]at U;obtain rfl:=Option.some.inj U;unfold Oper.wp;rw[execOp_call_go,cC m2];have k1:j.eval (.tmp Y)=v1.den S κ:=by
     split at m6
     ·rename_i v' B
      rw[J.ev (x := .tmp Y) B,SV.same_ok m6]
     ·cases m6
    have k2:j.eval (.tmp Z)=v2.den S κ:=by
     split at m7
     ·rename_i v' B
      rw[J.ev (x := .tmp Z) B,SV.same_ok m7]
     ·cases m7
    rw[show(#[]++(#[Operand.tmp Y,Operand.tmp Z]:Array Operand).map j.eval ++ #[]:Array Value) = #[j.eval (.tmp Y),j.eval (.tmp Z)] from ξ,k1,k2];refine(hf w' hk).mono fun e w2 ⟨u2,l2,he,y1,y2,y3,y4,y5⟩=>?_
    subst he;exact hK _ _ y5 ⟨u2,l2,rfl,y1,fun q hq=>y2 q (by have:=hk.size;omega),y3,y4⟩
   ·have O:aN l c=some y:=by unfold aN;rw[e1];rfl
    obtain⟨v',h9,u,l2,rfl,z1,z2,z3,z4⟩:=X c y (Nat.le_refl _) (Nat.lt_succ_self _) O;rw[e2]at U;obtain rfl:=Option.some.inj U;have ad:j.eval (.tmp y)=.agg #[u]:=h9.eval (by rw[J.size];exact m4);have ht:j.eval (.tmp t)=.pointer (some ⟨b,0,none⟩):=by
     split at m8
     ·rename_i v' B
      rw[J.ev (x := .tmp t) B,SV.same_ok m8];show Value.pointer (some ⟨(κ r).1,(κ r).2+0,none⟩)=_;rw[hκ]
     ·cases m8
    obtain⟨cs,E0,c1,c2,c3⟩:=(hv.keep hk (fun h=>h)).all (vs:=[u]) rfl;refine bB rfl fun K hK=>?_
    unfold Oper.wp;rw[dD (P:=P) (vs:=[u]) (b:=b) (off:=0) (cs:=cs) (E0:=E0) (x := .tmp t) (y := .tmp y) rfl ht (by rw[ad];rfl) (fun x hx=>by
     obtain rfl:=List.mem_singleton.1 hx;obtain⟨A,c,rfl,_⟩:=z1;rfl) m5 Nat.one_pos c1 (by simpa using c2)]
    have R:aD (fun g=>g=b) w' (w'.setRow b (bi cs 0 [u])):=d6 _ _ _ rfl;have W:=aJ.keep (z2 b hv.lt) R;refine hK _ _ (ln (hQ _ _ J ⟨u,l2,c3,aJ.r W,fun q hq=>aJ.other W fun h0 g n c hu e=>?_,z3,z4⟩ ((hk.mono fun _ _ h=>h.elim).trans R fun _ _ h=>h) I.defers));obtain⟨A2,al,e3,_,_,e4⟩:=z2 q χ;obtain⟨g',e5,_,e6,_⟩:=e4 h0;rw[e3,e5]at hu
    cases hu
    exact e6 e
  ·cases L
 ·cases L
theorem qX{a s:Nat}(j:a%4096=0)(l:s%4096=0)(d:a<lim):XOk (cS a s):=by
 refine⟨(vq d).1,(vq d).2,fun h=>?_⟩;unfold cS at h⊢;split at h
 ·simp at h
 ·rename_i g
  rw[if_neg g];simp only;omega
structure SlE where
 A:Option Addr
 n:Nat
 c:Nat
def slD(e:SlE):Sta where
 a _:=e.A
 n j:=match j with|0=>0|1=>e.n|_=>e.c
def dB(w0:World)(b:Nat)(φ:Nat→Prop)(e:SlE)(w:World):Prop:=Row w b [.slice e.A e.n e.c]∧∃l,e.n=l.length∧av w (.slice e.A e.n e.c) l∧(∀q,q<w0.heap.size→aJ w q (.slice e.A e.n e.c) l)∧dV l∧∀q,aY l q↔φ q
theorem dB.keep{w':World}{e:SlE}(hk:Kz w w')(h:dB w0 b φ e w):dB w0 b φ e w':=by
 obtain⟨d,l,g,j,u,v⟩:=h;exact⟨d.keep hk id,l,g,j.keep hk,fun q x=>aJ.keep (u q x) (hk.mono fun _ _ h=>h.elim),v⟩
theorem lG.e(h:lG w0 b φ w):∃e,dB w0 b φ e w:=by
 obtain⟨u,l,g,d,j,q⟩:=h;obtain⟨A,c,rfl,_⟩:=id d;exact⟨⟨A,l.length,c⟩,g,l,rfl,d,j,q⟩
theorem dB.nil(h:Row w b [.slice none 0 0])(d:∀q,¬ φ q):dB w0 b φ ⟨none,0,0⟩ w:=
 ⟨h,[],rfl,⟨none,0,rfl,Nat.le_refl _,ξ,fun h=>by cases h⟩,fun _ _=>⟨none,0,rfl,Nat.le_refl _,ξ,fun h=>by cases h⟩,rh,fun q=>⟨fun⟨_,h,_⟩=>(by cases h),fun h=>absurd h (d q)⟩⟩
theorem lN{w':World}{u:Value}{l:List Sp}(h:∀q,q<w0.heap.size→aJ w q u l)(B:b<w0.heap.size)(hk:aD (fun g=>g=b) w w'):av w' u l∧∀q,q<w0.heap.size→aJ w' q u l:=by
 have d:=aJ.keep (h b B) hk;refine⟨aJ.r d,fun q C=>aJ.other d fun y g n c j e=>?_⟩;obtain⟨A,c2,v,_,_,x⟩:=h q C;obtain⟨D,e3,_,e4,_⟩:=x y;rw[v,e3]at j
 cases j
 exact e4 e
structure Bn (P:aF):Prop where
 Qg:∀r∈P.QF,r.Q7%4096=0∧r.size%4096=0
 reg:∀x∈P.Q3,x.size%4096=0∧(x.fixed=true→x.Q7%4096=0)
def qj(P:aF)(k:Nat):Nat→Prop:=fun q=>∃r∈P.QF.take k,rng r.Q7 r.size q
theorem wu{P:aF}{k:Nat}{x:Ck.Ram}(g:P.QF[k]?=some x)(q:Nat):qj P (k+1) q↔qj P k q∨rng x.Q7 x.size q:=by
 unfold qj;rw[List.take_add_one,g];constructor
 ·rintro⟨r,d,h⟩
  rcases List.mem_append.1 d with d|d
  ·exact .inl ⟨r,d,h⟩
  ·obtain rfl:r=x:=by simpa using d
   exact .inr h
 ·rintro(⟨r,d,h⟩|h)
  ·exact⟨r,List.mem_append_left _ d,h⟩
  ·exact⟨x,List.mem_append_right _ ξ,h⟩
def sp2(x:Sp):Sta where
 i j:=match j with|0=>x.1|_=>x.2
def rmR:Fr:=[(8,.one (.i .i64 (.ln 0))),(7,.one (.sl 0 0 12)),(1,.one (.p 0 0)),(2,.one (.p 1 0)),(3,.one (.p 2 0))]
theorem vQ{B:Nat}{v:aX}{P:aF}(h:bO B w v P)(hB:B≤w.heap.size)(D:Bn P):Calls Tryz.prog 58 #[.agg (v.cells P).toArray] w (jS w (dQ P)):=by
 obtain⟨R,hR⟩:∃R:Ending→World→Prop,R=jS w (dQ P):=⟨_,rfl⟩;rw[←hR];have bd:P.QF.length≤2097152:=by obtain⟨_,_,_,_,hl,_⟩:=h.QF;exact hl
 refine fnE (ce v P) (fun _=>(0,0)) [.ag bM] Tryz.func58 Tryz.ntmps58 rfl (by rw[List.map_cons,bn h (Agr.refl _ _)];rfl) ψ H0 (fun _ h=>h.elim) trivial fun a hd hh=>?_
 refine gv (CL:={}) (fun _=>true) [(1,.one (.p 0 0)),(2,.one (.p 1 0))] [(0,bM),(1,[.l (.slice none 0 0)])] 2 [] δ hh eF fun L a1 w1 n1 p1=>?_
 refine gv (CL:={}) (fun _=>true) [(1,.one (.p 0 0)),(2,.one (.p 1 0)),(3,.one (.p 2 0))] [(0,bM),(1,[.l (.slice none 0 0)]),(2,[.l (.slice none 0 0)])] 3 [] δ n1 eF fun κ2 a2 C n2 J=>?_
 obtain⟨x1,x2,x3⟩:=p1.new.row n1.mem (r:=1) rfl ψ ψ;obtain⟨y1,y2,y3⟩:=J.new.row n2.mem (r:=2) rfl ψ ψ;have u:∀q,q<2→(L q).1<w1.heap.size:=fun q O=>by
  match q,O with
  | 0,_=>exact(n1.mem.get 0 _ rfl).1.1
  | 1,_=>exact(n1.mem.get 1 _ rfl).1.1
 have e1:κ2 1=L 1:=J.upto 1 ψ;obtain⟨b,I⟩:∃b,b=(κ2 2).1:=⟨_,rfl⟩;rw[←I]at y1 y3;have bb:κ2 2=(b,0):=Prod.ext I.symm y2;have n3:=(n2.own J 2 (l:=[.l (.slice none 0 0)]) rfl ψ ψ [(0,bM),(1,[.l (.slice none 0 0)])] (fun _=>some [.slice none 0 0]) 1 rfl δ rfl δ (fun q m hm O=>by rw[J.upto q O];exact u q O) (fun vs h=>by cases h;rfl)).1;have V:Kz w C:=p1.keep.trans J.keep fun _ _ h=>h
 refine bG 1 (fun _=>true) ((9,.one (.i .i64 (.c 0)))::rmR) [(0,bM),(1,[.l (.slice none 0 0)])] 3 [] hPp δ n3 fun κ3 a3 w3 n4 p3=>?_
 have H:κ3 2=(b,0):=(p3.upto 2 ψ).trans bb;have af:aD (fun g=>g=b) C w3:=p3.keep.mono fun g _ h=>by rw[I];exact h
 have b2:b<C.heap.size:=y1.lt;have ac:w.heap.size≤b:=by have:=p1.keep.size;omega
 have i0:dB C b (qj P 0) ⟨none,0,0⟩ w3:=by
  obtain⟨us,u1,u2,u3⟩:=n4.gh;rw[u3 _ rfl,←I]at u2;exact dB.nil u2 fun q ⟨r,hr,_⟩=>by simp at hr
 refine bL (oL n4 P.QF.length 24 9 0 rmR (fun _=>true) slD (fun k e w=>dB C b (qj P k) e w) (fun _ _ _ _ hk h=>h.keep hk) ⟨none,0,0⟩ hPp δ rfl χ i0 (n4.has.re ⟨rfl,rfl,rfl,rfl,rfl,rfl,trivial⟩) (fun k e a4 K hk n5 hA hK=>?_) fun e a4 K n5 hA hK=>?_)
 ·obtain⟨x,W⟩:=ge hk
  have d:aD (fun g=>g=b) C K:=af.trans (hK.mono fun g _ h=>by rw[I];exact h) fun _ _ h=>h
  have N:Kz w K:=aT V d fun g D=>by rw[show g=b from D];exact ac
  obtain⟨g,o,h1,h2,h3⟩:=dF h.QF (aI _ _ _) hB N W;have be:g<w.heap.size:=by
   obtain⟨g',o',Y,a0,_⟩:=dF h.QF (aI _ _ _) hB (aD.refl (fun _=>False) w) W;rw[h1]at Y
   cases Y
   exact a0
  obtain⟨κ5,u5,n6⟩:=n5.elem (j:=0) (x:=mf x) (cl:=DX 32) h1 ⟨h2,fun e=>by have e:g=(κ2 2).1:=e;rw[←I]at e;omega⟩ hk h3.1 rfl δ;refine ak (bG 1 (fun _=>true) ((5,.one (.p 4 0))::fx 24 9 rmR) [(4,DX 32)] 5 [] hPp δ n6 fun κ6 a6 w6 X p6=>?_);have al:κ6 2=(b,0):=(p6.upto 2 ψ).trans ((u5 2 ψ).trans H);have Q:=h3.2;have n8:=X.lay 48 (sp2 (cS x.Q7 x.size)) δ;have n9:=(n8.more [] [(54,[.one (.i .u64 (.x 33)),.one (.i .u64 (.x 34))],.ag [.i .u64 (.x 48),.i .u64 (.x 49)])] [] gJ (fun y hy w' hw=>by
   obtain rfl:=List.mem_singleton.1 hy;exact rD x.Q7 x.size Q.2.1 Q.2.2 w') (fun i x W=>by cases W)).ghm [(2,[.sl 24 25 26])] fun es w' hw D=>Row.memF al D.1
  obtain⟨r1,l,r2,r3,r4,r5,r6⟩:=(show dB C b (qj P k) e w6 from X.gh);have ad:=D.Qg x (List.mem_of_getElem? W);refine CM 6 63 2 (.ag [.sl 24 25 26]) (.ag [.i .u64 (.x 48),.i .u64 (.x 49)]) ((13,.ag [.sl 24 25 26])::(18,.ag [.i .u64 (.x 48),.i .u64 (.x 49)])::fx 24 9 rmR) (qj P (k+1)) C b hPp δ n9 al ⟨_,r1⟩ (by have:=d.size;have:=p6.keep.size;omega) (fun w' hw=>?_) fun a7 w7 f7 g7 k7 d7=>dA rfl ?_
  ·refine(rJ (r3.keep hw) r5 (qX ad.1 ad.2 Q.2.1)).mono fun e2 bf ⟨u2,l2,z1,z2,z3,z4,z5,z6⟩=>⟨u2,l2,z1,z2,z3,z4,fun q=>(z5 q).trans ?_,z6⟩
   rw[wu W,←r6,←rC]
  ·obtain⟨e',a8⟩:=g7.e
   refine⟨e',κ6,a8,fun r hr=>(p6.upto r (by show r<4;omega)).trans (u5 r hr),f7.re ⟨rfl,rfl,rfl,rfl,rfl,rfl,trivial⟩,?_,?_⟩
   ·exact hA.trans (p6.agree.trans ⟨f7.size.trans X.has.size.symm,d7,fun _ h=>by cases h⟩ fun _ h=>h) fun _ h=>h
   ·exact hK.trans ((p6.keep.mono fun _ _ h=>h).trans (k7.mono fun g _ h=>by show g=(κ2 2).1;rw[←I];exact h) fun _ _ h=>h) fun _ _ h=>h
 ·have d:aD (fun g=>g=b) C K:=af.trans (hK.mono fun g _ h=>by rw[I];exact h) fun _ _ h=>h
  obtain⟨r1,l,r2,r3,r4,r5,r6⟩:=(show dB C b (qj P P.QF.length) e K from n5.gh);have U:κ3 1=L 1:=(p3.upto 1 ψ).trans e1;have a9:(L 1).1<C.heap.size:=by have:=u 1 ψ;have:=J.keep.size;omega
  have Z:(L 1).1≠b:=by have:=u 1 ψ;omega
  have n6:=((n5.mute H0 [(1,[.l (.slice none 0 0)])] [] δ (fun _ _ _ h=>h) (fun _ h=>h.elim) trivial).row 2 [.sl 24 25 26] (by rw[H]) (by rw[H];exact r1));have xz:Row K (κ3 1).1 [.slice none 0 0]:=by
   rw[U];exact(x1.keep J.keep (fun h=>h)).keep d Z
  refine me (CL:={}) 1 1 [2] (fun _=>true) [(2,.one (.p 1 0))] [(1,[.sl 24 25 26])] 3 [] δ n6 eF (fun _=>xz.some) (fun q O=>by
   obtain rfl:=List.mem_singleton.1 O;rw[H,U];exact⟨r1.lt,fun _ e=>Z e.symm⟩) (fun _ _ _ _ _ _ _=>trivial) fun κ5 a5 w5 X u7 k7 g7 _ _=>kD ?_
  have bc:κ5 1=L 1:=(u7 1 ψ).trans U;refine pH (t:=2) (r:=1) (E:=119) (v := .ag [.sl 24 25 26]) rfl X.has rfl δ X.mem.f (g7.defers.trans (hA.defers.trans (p3.agree.defers.trans (J.agree.defers.trans (p1.agree.defers.trans hd))))) ?_;rw[hR];have an:aD (fun g=>g=(L 1).1) K w5:=k7.mono fun g _ h=>by rcases h with h|h;exact h.elim;rw[bc]at h;exact h
  obtain⟨z1,z2⟩:=lN r4 a9 an;refine⟨.slice e.A e.n e.c,l,rfl,z1,fun q O=>z2 q (by have:=V.size;omega),r5,fun q=>(r6 q).trans ?_,?_⟩
  ·unfold qj dQ
   rw[List.take_length]
  ·have N:Kz w K:=aT V d fun g D=>by rw[show g=b from D];exact ac
   exact aT N an fun g D=>by rw[show g=(L 1).1 from D];exact x3
end Go.Proofs.YthobcefghkeddaaGreatDoor.Rs
namespace Go.Proofs.YthobcefghkeddaaGreatDoor.Rs
open Go.RowKit Go.Proofs.YthobcefghkeddaaGreatDoor Ck
def yC(w:World)(u:Value)(l:List Nat):Prop:=∃A c,u=.slice A l.length c∧l.length≤c∧l.length≤4194304∧(0<l.length→∃g,A=some ⟨g,0,none⟩∧g<w.heap.size∧∀(i x:Nat),l[i]?=some x→w.cell? ⟨g,i,none⟩=some (.int .u64 x))
theorem yC.keep{w w':World}{u:Value}{l:List Nat}(h:yC w u l)(hk:Kz w w'):yC w' u l:=by
 obtain⟨A,c,e,q,v,y⟩:=h;refine⟨A,c,e,q,v,fun j=>?_⟩;obtain⟨g,e,d,B⟩:=y j;exact⟨g,e,Nat.lt_of_lt_of_le d hk.size,fun i x C=>(hk.cell (p:=⟨_,_,none⟩) d id).trans (B i x C)⟩
theorem yz{w:World}{Z:Nat}{u:Value}{l:List Nat}(h:w.ownsRow Z 41 1 u l.length (l.map fun(x:Nat)=>Value.int .u64 x))(y:l.length≤4194304):yC w u l:=by
 rcases h.2 with⟨j,q⟩|⟨g,C,d,j,q,v,D,H,I,E⟩
 ·exact⟨none,0,by rw[j,q],χ,y,fun h=>χ⟩
 ·refine⟨_,_,j,D,y,fun _=>⟨g,rfl,fR v,fun i x B=>?_⟩⟩
  refine jO v ?_;have hi:=(List.getElem?_eq_some_iff.1 B).1;have:(d.toList.take (l.length*1))[i]?=some (Value.int .u64 (x:Nat)):=by rw[E,List.getElem?_map,B];rfl
  rw[List.getElem?_take_of_lt χ,Array.getElem?_toList]at this;exact this
def kq(P:aF)(k:Nat):Nat→Prop:=fun q=>dQ P q∧∀x∈P.Q3.take k,x.fixed=true→¬ rng x.Q7 x.size q
theorem oJ{P:aF}{k:Nat}{x:Ck.Region}(l:P.Q3[k]?=some x)(q:Nat):kq P (k+1) q↔kq P k q∧(x.fixed=true→¬ rng x.Q7 x.size q):=by
 unfold kq;rw[List.take_add_one,l];constructor
 ·rintro⟨h,g⟩
  exact⟨⟨h,fun y d=>g y (List.mem_append_left _ d)⟩,g x (List.mem_append_right _ ξ)⟩
 ·rintro⟨⟨h,g⟩,j⟩
  refine⟨h,fun y d=>?_⟩
  rcases List.mem_append.1 d with d|d
  ·exact g y d
  ·obtain rfl:y=x:=by simpa using d
   exact j
def frR:Fr:=[(10,.one (.i .i64 (.ln 2))),(9,.one (.sl 2 2 14)),(1,.one (.p 0 0)),(2,.one (.p 1 0)),(3,.one (.p 2 0))]
theorem zo{B:Nat}{w:World}{v:aX}{P:aF}(h:bO B w v P)(hB:B≤w.heap.size)(C:Bn P):Calls Tryz.prog 50 #[.agg (v.cells P).toArray] w (jS w (bR P)):=by
 obtain⟨R,hR⟩:∃R:Ending→World→Prop,R=jS w (bR P):=⟨_,rfl⟩;rw[←hR];have bs:P.Q3.length≤2097152:=by obtain⟨_,_,_,_,V,_⟩:=h.Q3;exact V
 refine fnE (ce v P) (fun _=>(0,0)) [.ag bM] Tryz.func50 Tryz.ntmps50 rfl (by rw[List.map_cons,bn h (Agr.refl _ _)];rfl) ψ H0 (fun _ h=>h.elim) trivial fun a hd hh=>?_
 refine gv (CL:={}) (fun _=>true) [(1,.one (.p 0 0)),(2,.one (.p 1 0))] [(0,bM),(1,[.l (.slice none 0 0)])] 2 [] δ hh eF fun Q a1 N n1 p1=>?_
 obtain⟨x1,x2,x3⟩:=p1.new.row n1.mem (r:=1) rfl ψ ψ;refine nU 1 58 [.ag bM] (.ag [.sl 24 25 26]) 24 (fun d w2=>∃e:SlE,d=slD e∧∃l,e.n=l.length∧av w2 (.slice e.A e.n e.c) l∧(∀q,q<N.heap.size→aJ w2 q (.slice e.A e.n e.c) l)∧dV l∧∀q,aY l q↔dQ P q) (fun _=>true) [(1,.one (.p 0 0)),(2,.one (.p 1 0)),(3,.one (.p 2 0))] [(0,bM),(1,[.l (.slice none 0 0)]),(2,[.sl 24 25 26])] 3 δ n1 (fun w' al=>?_) fun κ2 a2 w2 d wt ⟨e0,bf,l0,l1,l2,l3,l4,l5⟩ kt n2 Z=>?_
 ·rw[List.map_cons,bn h (Agr.refl _ _)]
  have hk:=K3 p1.keep al;refine(vQ (bO.kept h hB hk) (by have:=hk.size;omega) C).mono fun e bp ⟨u,l,y1,y2,y3,y4,y5,y6⟩=>?_
  obtain⟨A',c',rfl,_⟩:=id y2;exact⟨_,⟨⟨A',l.length,c'⟩,rfl,l,rfl,y2,fun q W=>y3 q (by have:=al.size;omega),y4,y5⟩,y1,y6⟩
 subst bf;obtain⟨y1,y2,y3⟩:=Z.new.row n2.mem (r:=2) rfl ψ ψ;obtain⟨b,hb⟩:∃b,b=(κ2 2).1:=⟨_,rfl⟩;rw[←hb]at y1 y3;have bm:κ2 2=(b,0):=Prod.ext hb.symm y2;have H:∀q,q<2→(Q q).1<N.heap.size:=fun q W=>by
  match q,W with
  | 0,_=>exact(n1.mem.get 0 _ rfl).1.1
  | 1,_=>exact(n1.mem.get 1 _ rfl).1.1
 have e1:κ2 1=Q 1:=Z.upto 1 ψ;have bd:Kz w w2:=p1.keep.trans Z.keep fun _ _ h=>h
 refine bG 1 (fun _=>true) ((11,.one (.i .i64 (.c 0)))::frR) [(0,bM),(1,[.l (.slice none 0 0)]),(2,[.sl 24 25 26])] 3 [] hPp δ n2 fun κ3 a3 w3 n3 p3=>?_
 have K:κ3 2=(b,0):=(p3.upto 2 ψ).trans bm;have an:w.heap.size≤b:=by have:=p1.keep.size;omega
 have bt:N.heap.size≤b:=y3;have I:=y1.keep p3.keep (fun h=>h);have n4:=n3.mute (gB b 1 fun _=>none) [(0,bM),(1,[.l (.slice none 0 0)])] [] δ (fun r l V e=>by
  have e:(κ3 r).1=b:=e;have hr:r<2:=by
   rw[cJ]at V;split at V
   ·omega
   ·rw[cJ]at V
    split at V
    ·omega
    ·cases V
  rw[p3.upto r (by show r<3;omega),Z.upto r hr]at e;have:=H r hr;omega) (fun g C=>by rw[show g=b from C];exact I.lt) ⟨_,rfl,I,fun vs h=>by cases h⟩
 have a8:aD (fun g=>g=b) w2 w3:=p3.keep.mono fun g _ h=>h.elim
 have i0:dB N b (kq P 0) e0 w3:=by
  have bc:Kz wt w3:=kt.trans p3.keep fun _ _ h=>h
  exact⟨I,l0,l1,l2.keep bc,fun q W=>aJ.keep (l3 q W) (bc.mono fun _ _ h=>h.elim),l4,fun q=>(l5 q).trans ⟨fun h=>⟨h,fun x J=>by simp at J⟩,fun h=>h.1⟩⟩
 refine bL (oL n4 P.Q3.length 32 11 2 frR (fun _=>true) slD (fun k e w=>dB N b (kq P k) e w) (fun _ _ _ _ hk h=>h.keep hk) e0 hPp δ rfl χ i0 (n4.has.re ⟨rfl,rfl,rfl,rfl,rfl,rfl,trivial⟩) (fun k e a4 O hk n5 hA hK=>?_) fun e a4 O n5 hA hK=>?_)
 ·obtain⟨x,J⟩:=ge hk
  have D:aD (fun g=>g=b) w2 O:=a8.trans (hK.mono fun g _ h=>h) fun _ _ h=>h
  have U:Kz w O:=aT bd D fun g C=>by rw[show g=b from C];exact an
  obtain⟨g,o,h1,h2,h3⟩:=dF h.Q3 (aI _ _ _) hB U J;have bw:g<w.heap.size:=by
   obtain⟨g',o',ac,be,_⟩:=dF h.Q3 (aI _ _ _) hB (aD.refl (fun _=>False) w) J;rw[h1]at ac
   cases ac
   exact be
  obtain⟨κ5,u5,n6⟩:=n5.elem (j:=2) (x:=nY x) (cl:=lS 40) h1 ⟨h2,fun e=>by have e:g=b:=e;omega⟩ hk h3.1 rfl δ;refine ak (bG 2 (fun _=>true) ((5,.one (.p 4 0))::(16,.one (.b (.x 40)))::fx 32 11 frR) [(4,lS 40)] 5 [] hPp δ n6 fun κ6 a6 w6 L p6=>?_);have a9:κ6 2=(b,0):=(p6.upto 2 ψ).trans ((u5 2 ψ).trans K);have X:=h3.2;have a0:=C.reg x (List.mem_of_getElem? J);obtain⟨r1,l,r2,r3,r4,r5,r6⟩:=(show dB N b (kq P k) e w6 from L.gh);have af:∀r,r<3→κ6 r=κ3 r:=fun r hr=>(p6.upto r (by show r<4;omega)).trans (u5 r hr)
  cases hfx:x.fixed with
  | false =>
   refine cQ false L rfl hfx (iV (dA rfl ?_));refine⟨e,κ6,⟨r1,l,r2,r3,r4,r5,fun q=>(r6 q).trans ?_⟩,af,L.has.re ⟨rfl,rfl,rfl,rfl,rfl,rfl,trivial⟩,hA.trans p6.agree fun _ h=>h,hK.trans p6.keep fun _ _ h=>h⟩;rw[oJ J];simp[hfx]
  | true =>
   refine cQ true L rfl hfx ?_;have n8:=L.lay 56 (sp2 (cS x.Q7 x.size)) δ;have n9:=(n8.more [] [(54,[.one (.i .u64 (.x 42)),.one (.i .u64 (.x 41))],.ag [.i .u64 (.x 56),.i .u64 (.x 57)])] [] gJ (fun y hy w' hw=>by
    obtain rfl:=List.mem_singleton.1 hy;exact rD x.Q7 x.size X.2.2.1 X.2.1 w') (fun i x J=>by cases J)).ghm [(2,[.sl 32 33 34])] fun es w' hw C=>Row.memF a9 C.1
   refine CM 6 53 2 (.ag [.sl 32 33 34]) (.ag [.i .u64 (.x 56),.i .u64 (.x 57)]) ((17,.ag [.sl 32 33 34])::(22,.ag [.i .u64 (.x 56),.i .u64 (.x 57)])::fx 32 11 frR) (kq P (k+1)) N b hPp δ n9 a9 ⟨_,r1⟩ (by have:=D.size;have:=p6.keep.size;have:=Z.keep.size;omega) (fun w' hw=>?_) fun a7 w7 f7 g7 k7 d7=>dA rfl ?_
   ·refine(mL (r3.keep hw) r5 (qX (a0.2 hfx) a0.1 X.2.2.1)).mono fun e2 bp ⟨u2,l2,z1,z2,z3,z4,z5,z6⟩=>⟨u2,l2,z1,z2,z3,z4,fun q=>(z5 q).trans ?_,z6⟩
    rw[oJ J,←r6,←rC];simp[hfx]
   ·obtain⟨e',bg⟩:=g7.e
    refine⟨e',κ6,bg,af,f7.re ⟨rfl,rfl,rfl,rfl,rfl,rfl,trivial⟩,?_,?_⟩
    ·exact hA.trans (p6.agree.trans ⟨f7.size.trans L.has.size.symm,d7,fun _ h=>by cases h⟩ fun _ h=>h) fun _ h=>h
    ·exact hK.trans ((p6.keep.mono fun _ _ h=>h).trans (k7.mono fun g _ h=>h) fun _ _ h=>h) fun _ _ h=>h
 ·have D:aD (fun g=>g=b) w2 O:=a8.trans (hK.mono fun g _ h=>h) fun _ _ h=>h
  obtain⟨r1,l,r2,r3,r4,r5,r6⟩:=(show dB N b (kq P P.Q3.length) e O from n5.gh);have Y:κ3 1=Q 1:=(p3.upto 1 ψ).trans e1;have bl:(Q 1).1<N.heap.size:=H 1 ψ;have ad:(Q 1).1≠b:=by have:=H 1 ψ;omega
  have n6:=((n5.mute H0 [(1,[.l (.slice none 0 0)])] [] δ (fun _ _ _ h=>h) (fun _ h=>h.elim) trivial).row 2 [.sl 32 33 34] (by rw[K]) (by rw[K];exact r1));have xz:Row O (κ3 1).1 [.slice none 0 0]:=by
   rw[Y];exact(x1.keep Z.keep (fun h=>h)).keep D ad
  refine me (CL:={}) 1 1 [2] (fun _=>true) [(2,.one (.p 1 0))] [(1,[.sl 32 33 34])] 3 [] δ n6 eF (fun _=>xz.some) (fun q W=>by
   obtain rfl:=List.mem_singleton.1 W;rw[K,Y];exact⟨r1.lt,fun _ e=>ad e.symm⟩) (fun _ _ _ _ _ _ _=>trivial) fun κ5 a5 w5 L u7 k7 g7 _ _=>kD ?_
  have bo:κ5 1=Q 1:=(u7 1 ψ).trans Y;refine pH (t:=2) (r:=1) (E:=119) (v := .ag [.sl 32 33 34]) rfl L.has rfl δ L.mem.f (g7.defers.trans (hA.defers.trans (p3.agree.defers.trans (Z.agree.defers.trans (p1.agree.defers.trans hd))))) ?_;rw[hR];have bb:aD (fun g=>g=(Q 1).1) O w5:=k7.mono fun g _ h=>by rcases h with h|h;exact h.elim;rw[bo]at h;exact h
  obtain⟨z1,z2⟩:=lN r4 bl bb;refine⟨.slice e.A e.n e.c,l,rfl,z1,fun q W=>z2 q (by have:=p1.keep.size;omega),r5,fun q=>(r6 q).trans ?_,?_⟩
  ·unfold kq bR
   rw[List.take_length]
  ·have U:Kz w O:=aT bd D fun g C=>by rw[show g=b from C];exact an
   exact aT U bb fun g C=>by rw[show g=(Q 1).1 from C];exact x3
def wpB(P:Program)(C:Ctx)(N:Nat)(l:List Oper)(s:St)(c:Nat)(f:FuncId)(r:Nat)(v1 v2:SV)(F1:Fr):Bool:=
 match stL P C N l (l.take c) s,l.drop c with
 | some s1,[⟨some d,.call ⟨.value (.func g),xs,_⟩,_,_,_,none⟩,⟨none,.store E (.tmp t) (.tmp y),_,_,_,none⟩] =>
  match evs s1.F xs.toList with
  | some sv=>Nat.beq g f&&(gD P f&&(Nat.beq y d&&(Nat.ble (d+1) N&&(Nat.beq (P.cellsOf E) 1&&(jo sv [v1,v2]&&((match gt s1.F t with|some v=>SV.same v (.one (.p r 0))|none=>false)&&(!Nat.beq t d&&(Nat.ble (r+1) s.k&&(v1.sc s.k&&(v2.sc s.k&&(gZ s1.F F1&&((gt F1 d).isNone&&F1.all fun x=>x.2.sc s.k))))))))))))
  | none=>false
 | _,_=>false
theorem DQ{S:Sta}{N:Nat}{P:Program}{C:Ctx}{H:Gh}{id:Nat}{ops:Array Oper}{rest:List Code}{Q:Exit→Act→World→Prop}{s:St}{κ:Kap}{a:Act}{w:World}(c:Nat)(f:FuncId)(r:Nat)(v1 v2:SV)(F1:Fr)(φ:Nat→Prop)(w0:World)(b:Nat)
 (B:wpB P C N ops.toList s c f r v1 v2 F1=true)(hn:Now S κ N P C H s a w)(hT:∀g,¬ H.T g)(hκ:κ r=(b,0))(U:∃v,Row w b [v])(h0:w0.heap.size≤w.heap.size)
 (hf:∀w',Kz w w'→Calls P f #[v1.den S κ,v2.den S κ] w' (jS w' φ))
 (hQ:∀X w',Has S κ N F1 X→lG w0 b φ w'→aD (fun g=>g=b) w w'→X.defers=a.defers→wpL P Q rest X w'):wpL P Q (Code.region id ops false::rest) a w:=by
 unfold wpB at B;split at B
 ·rename_i s1 d g xs _ _ _ _ E t y a8 a7 a6 e1 e2
  split at B
  ·rename_i sv has
   simp only[Bool.and_eq_true]at B;obtain⟨m1,m2,m3,m4,m5,m6,m7,m8,m9,a2,a3,a4,V,a5⟩:=B;have m1:=Nat.eq_of_beq_eq_true m1;have m3:=Nat.eq_of_beq_eq_true m3;have m4:=Nat.le_of_ble_eq_true m4;have m5:=Nat.eq_of_beq_eq_true m5;have m6:=fQ m6;have m9:=Nat.le_of_ble_eq_true m9;subst m1 m3 m6;have ad:y≠t:=fun e=>by subst e;simp at m8
   obtain⟨v,hv⟩:=U;show(Code.region id ops false).wp P (Exit.then (wpL P Q rest) Q) a w;refine wp_region_list ?_;have j:=List.take_append_drop c ops.toList;rw[e2]at j;have L:wpList P ops.toList.toArray (Exit.then (wpL P Q rest) Q) ops.toList a w:=by
    conv=>arg 4;rw[←j]
    refine db e1 hn fun κ1 J w1 W I=>?_
    have hk:Kz w w1:=I.keep.mono fun g _ h=>hT g h
    have a0:κ1 r=(b,0):=(I.upto r m9).trans hκ;refine bB rfl fun K hK=>?_
    have l:(#[]++xs.map J.eval ++ #[]:Array Value) = #[v1.den S κ,v2.den S κ]:=by
     apply Array.ext'
     have h1:=iL W.has has;simp[h1,SV.sc_ok I.upto a2,SV.sc_ok I.upto a3]
    unfold Oper.wp;rw[execOp_call_go,cC m2,l];refine(hf w1 hk).mono fun e w2 ⟨D,l2,he,z1,z2,z3,z4,O⟩=>?_
    subst he;refine hK _ _ (bB rfl fun K2 Y=>?_);have an:(J.put (some y) (.agg #[D])).eval (.tmp y)=.agg #[D]:=At.eval At.put_self (by simp[Act.put,W.has.size];omega);have al:(J.put (some y) (.agg #[D])).eval (.tmp t)=.pointer (some ⟨b,0,none⟩):=by
     show(J.tmps.setIfInBounds y _).getD t undef=_;rw[Array.getD_eq_getD_getElem?,Array.getElem?_setIfInBounds_ne ad];split at m7
     ·rename_i v' af
      rw[W.has.get _ _ af,SV.same_ok m7];show(some (Value.pointer (some ⟨(κ1 r).1,(κ1 r).2+0,none⟩))).getD undef=_;rw[a0];rfl
     ·cases m7
    obtain⟨cs,E0,c1,c2,c3⟩:=((hv.keep hk (fun h=>h)).keep O (fun h=>h)).all (vs:=[D]) rfl;unfold Oper.wp;rw[dD (P:=P) (vs:=[D]) (b:=b) (off:=0) (cs:=cs) (E0:=E0) (x := .tmp t) (y := .tmp y) rfl al (by rw[an];rfl) (fun x hx=>by
     obtain rfl:=List.mem_singleton.1 hx;obtain⟨A,c,rfl,_⟩:=z1;rfl) m5 Nat.one_pos c1 (by simpa using c2)]
    have R:aD (fun g=>g=b) w2 (w2.setRow b (bi cs 0 [D])):=d6 _ _ _ rfl;have Z:b<w1.heap.size:=(hv.keep hk (fun h=>h)).lt;obtain⟨z5,z6⟩:=lN z2 Z R;refine Y _ _ (ln (hQ _ _ ?_ ⟨D,l2,c3,z5,fun q hq=>z6 q (by have:=hk.size;omega),z3,z4⟩ (((hk.trans O fun _ _ h=>h).mono fun _ _ h=>h.elim).trans R fun _ _ h=>h) ?_))
    ·have hF:=(W.has.sub a4).back I.upto a5
     refine⟨by simpa[Act.put]using hF.size,fun q u hq=>?_⟩;have:y≠q:=fun e=>by subst e;rw[hq]at V;cases V
     show(J.tmps.setIfInBounds y _)[q]?=_;rw[Array.getElem?_setIfInBounds_ne this];exact hF.get q u hq
    ·obtain⟨lw,ew,ac⟩:=I.agree
     exact ac.defers
   simpa using L
  ·cases B
 ·cases B
