import Derived.Test.YthobcefghkeddaaGreatDoorPl5
import Derived.Test.YthobcefghkeddaaGreatDoorWho
set_option maxRecDepth 100000
set_option linter.all false
set_option maxHeartbeats 4000000
namespace Go.Proofs.YthobcefghkeddaaGreatDoor
namespace Rs
open Go.RowKit Ck
variable {w w0:World} {b:Nat} {φ:Nat→Prop}
def wB(P:Program)(C:Ctx)(N:Nat)(l:List Oper)(s:St)(c:Nat)(f:FuncId)(r:Nat)(v1 v2:SV)(F1:Fr):Bool:=
 dvB P C N l s c (c+1) F1&&(Nat.beq l.length (c+2)&&match l[c]?,l[c+1]? with
  | some ⟨some d,.call ⟨.value (.func g),xs,ts⟩,ty,ps,af,gd⟩,some ⟨none,.store E (.tmp t) (.tmp y),_,_,_,none⟩ =>
   match xs.toList with
   | [.tmp x1,.tmp x2]=>Nat.beq g f&&(iA P f&&(Nat.beq y d&&(Nat.ble (d+1) N&&(Nat.beq (P.cellsOf E) 1&&((match gt (jM l ⟨some d,.call ⟨.value (.func g),xs,ts⟩,ty,ps,af,gd⟩ F1) x1 with|some v=>SV.same v v1|none=>false)&&((match gt (jM l ⟨some d,.call ⟨.value (.func g),xs,ts⟩,ty,ps,af,gd⟩ F1) x2 with|some v=>SV.same v v2|none=>false) &&
    (match gt F1 t with|some v=>SV.same v (.one (.p r 0))|none=>false)))))))
   | _=>false
  | _,_=>false)
theorem DL{S:Sta}{N:Nat}{P:Program}{C:Ctx}{H:Gh}{id:Nat}{ops:Array Oper}{rest:List Code}{Q:Exit→Act→World→Prop}{s:St}{κ:Kap}{a:Act}(c:Nat)(f:FuncId)(r:Nat)(v1 v2:SV)(F1:Fr)(φ:Nat→Prop)(w0:World)(b:Nat)(hP:P.follows .mixedOrders=true)
 (hB:wB P C N ops.toList s c f r v1 v2 F1=true)(hn:Now S κ N P C H s a w)(hκ:κ r=(b,0))(V:∃v,Row w b [v])(h0:w0.heap.size≤w.heap.size)
 (hf:∀w',Kz w w'→Calls P f #[v1.den S κ,v2.den S κ] w' (jw w' φ))
 (hQ:∀j w',Has S κ N F1 j→mY w0 b φ w'→aD (fun g=>g=b) w w'→j.defers=a.defers→wpL P Q rest j w'):wpL P Q (Code.region id ops true::rest) a w:=by
 obtain⟨l,hl⟩:∃l,l=ops.toList:=⟨_,rfl⟩;obtain rfl:ops=l.toArray:=by rw[hl]
 rw[←hl]at hB;clear hl;simp only[wB,Bool.and_eq_true]at hB;obtain⟨hd,D,L⟩:=hB;have D:=Nat.eq_of_beq_eq_true D;split at L
 ·rename_i d g xs ts ty ps af gd E t y q1 q2 q3 e1 e2
  split at L
  ·rename_i Y Z aa
   simp only[Bool.and_eq_true]at L;obtain⟨m1,m2,m3,m4,m5,m6,m7,m8⟩:=L;have m1:=Nat.eq_of_beq_eq_true m1;have m3:=Nat.eq_of_beq_eq_true m3;have m4:=Nat.le_of_ble_eq_true m4;have m5:=Nat.eq_of_beq_eq_true m5;subst m1 m3;obtain rfl:xs = #[.tmp Y,.tmp Z]:=Array.ext' aa;obtain⟨v,hv⟩:=V;refine tN c (c+1) F1 (fun _ w' u'=>∃u l,u'=.agg #[u]∧bZ w' u l∧(∀q,q<w.heap.size→aK w' q u l)∧dl l∧∀q,aj l q↔φ q) hP hd hn (fun _ w' al _ hk ⟨u,l,h1,h2,h3,h4⟩=>⟨u,l,h1,h2.keep hk,fun q hq=>aK.keep (h3 q hq) (hk.mono fun _ _ h=>h.elim),h4⟩) (fun i o h2 h5 U j w' K hk J X hK=>?_) fun o U j w' hk I J X=>?_
   ·obtain rfl:i=c:=χ
    rw[e1]at U;obtain rfl:=Option.some.inj U;unfold Oper.wp;rw[execOp_call_go,cQ m2];have k1:j.eval (.tmp Y)=v1.den S κ:=by
     split at m6
     ·rename_i v' B
      rw[J.ev (x := .tmp Y) B,SV.same_ok m6]
     ·cases m6
    have k2:j.eval (.tmp Z)=v2.den S κ:=by
     split at m7
     ·rename_i v' B
      rw[J.ev (x := .tmp Z) B,SV.same_ok m7]
     ·cases m7
    rw[show(#[]++(#[Operand.tmp Y,Operand.tmp Z]:Array Operand).map j.eval ++ #[]:Array Value) = #[j.eval (.tmp Y),j.eval (.tmp Z)] from ξ,k1,k2];refine(hf w' hk).mono fun e w2 ⟨u2,l2,he,y1,y2,y3,y4,y5⟩=>?_
    subst he;exact hK _ _ y5 ⟨u2,l2,rfl,y1,fun q hq=>y2 q (by have:=hk.size;omega),y3,y4⟩
   ·have O:aO l c=some y:=by unfold aO;rw[e1];rfl
    obtain⟨v',h9,u,l2,rfl,z1,z2,z3,z4⟩:=X c y (Nat.le_refl _) (Nat.lt_succ_self _) O;rw[e2]at U;obtain rfl:=Option.some.inj U;have ac:j.eval (.tmp y)=.agg #[u]:=h9.eval (by rw[J.size];exact m4);have ht:j.eval (.tmp t)=.pointer (some ⟨b,0,none⟩):=by
     split at m8
     ·rename_i v' B
      rw[J.ev (x := .tmp t) B,SV.same_ok m8];show Value.pointer (some ⟨(κ r).1,(κ r).2+0,none⟩)=_;rw[hκ]
     ·cases m8
    obtain⟨cs,E0,c1,c2,c3⟩:=(hv.keep hk (fun h=>h)).all (vs:=[u]) rfl;refine bR rfl fun K hK=>?_
    unfold Oper.wp;rw[dI (P:=P) (vs:=[u]) (b:=b) (off:=0) (cs:=cs) (E0:=E0) (x := .tmp t) (y := .tmp y) rfl ht (by rw[ac];rfl) (fun x hx=>by
     obtain rfl:=List.mem_singleton.1 hx;obtain⟨A,c,rfl,_⟩:=z1;rfl) m5 Nat.one_pos c1 (by simpa using c2)]
    have R:aD (fun g=>g=b) w' (w'.setRow b (bn cs 0 [u])):=dG _ _ _ rfl;have W:=aK.keep (z2 b hv.lt) R;refine hK _ _ (ln (hQ _ _ J ⟨u,l2,c3,aK.r W,fun q hq=>aK.other W fun h0 g n c hu e=>?_,z3,z4⟩ ((hk.mono fun _ _ h=>h.elim).trans R fun _ _ h=>h) I.defers));obtain⟨A2,ad,e3,_,_,e4⟩:=z2 q χ;obtain⟨g',e5,_,e6,_⟩:=e4 h0;rw[e3,e5]at hu
    cases hu
    exact e6 e
  ·cases L
 ·cases L
theorem qn{a s:Nat}(j:a%4096=0)(l:s%4096=0)(d:a<lim):XOk (cg a s):=by
 refine⟨(wn d).1,(wn d).2,fun h=>?_⟩;unfold cg at h⊢;split at h
 ·simp at h
 ·rename_i g
  rw[if_neg g];simp only;omega
structure SlE where
 A:Option Addr
 n:Nat
 c:Nat
def slD(e:SlE):Sta where
 a _:=e.A
 n j:=match j with|0=>0|1=>e.n|_=>e.c
def dy(w0:World)(b:Nat)(φ:Nat→Prop)(e:SlE)(w:World):Prop:=Row w b [.slice e.A e.n e.c]∧∃l,e.n=l.length∧bZ w (.slice e.A e.n e.c) l∧(∀q,q<w0.heap.size→aK w q (.slice e.A e.n e.c) l)∧dl l∧∀q,aj l q↔φ q
theorem dy.keep{w':World}{e:SlE}(hk:Kz w w')(h:dy w0 b φ e w):dy w0 b φ e w':=by
 obtain⟨d,l,g,j,u,v⟩:=h;exact⟨d.keep hk id,l,g,j.keep hk,fun q x=>aK.keep (u q x) (hk.mono fun _ _ h=>h.elim),v⟩
theorem mY.e(h:mY w0 b φ w):∃e,dy w0 b φ e w:=by
 obtain⟨u,l,g,d,j,q⟩:=h;obtain⟨A,c,rfl,_⟩:=id d;exact⟨⟨A,l.length,c⟩,g,l,rfl,d,j,q⟩
theorem dy.nil(h:Row w b [.slice none 0 0])(d:∀q,¬ φ q):dy w0 b φ ⟨none,0,0⟩ w:=
 ⟨h,[],rfl,⟨none,0,rfl,Nat.le_refl _,ξ,fun h=>by cases h⟩,fun _ _=>⟨none,0,rfl,Nat.le_refl _,ξ,fun h=>by cases h⟩,sA,fun q=>⟨fun⟨_,h,_⟩=>(by cases h),fun h=>absurd h (d q)⟩⟩
theorem qL{w':World}{u:Value}{l:List Sp}(h:∀q,q<w0.heap.size→aK w q u l)(B:b<w0.heap.size)(hk:aD (fun g=>g=b) w w'):bZ w' u l∧∀q,q<w0.heap.size→aK w' q u l:=by
 have d:=aK.keep (h b B) hk;refine⟨aK.r d,fun q C=>aK.other d fun y g n c j e=>?_⟩;obtain⟨A,c2,v,_,_,x⟩:=h q C;obtain⟨D,e3,_,e4,_⟩:=x y;rw[v,e3]at j
 cases j
 exact e4 e
structure Cp (P:aF):Prop where
 Qh:∀r∈P.QF,r.Q7%4096=0∧r.size%4096=0
 reg:∀x∈P.Q3,x.size%4096=0∧(x.fixed=true→x.Q7%4096=0)
def rB(P:aF)(k:Nat):Nat→Prop:=fun q=>∃r∈P.QF.take k,rng r.Q7 r.size q
theorem xl{P:aF}{k:Nat}{x:Ck.Ram}(g:P.QF[k]?=some x)(q:Nat):rB P (k+1) q↔rB P k q∨rng x.Q7 x.size q:=by
 unfold rB;rw[List.take_add_one,g];constructor
 ·rintro⟨r,d,h⟩
  rcases List.mem_append.1 d with d|d
  ·exact .inl ⟨r,d,h⟩
  ·obtain rfl:r=x:=by simpa using d
   exact .inr h
 ·rintro(⟨r,d,h⟩|h)
  ·exact⟨r,List.mem_append_left _ d,h⟩
  ·exact⟨x,List.mem_append_right _ ξ,h⟩
def sp2(x:Sp):Sta where
 i j:=match j with|0=>x.1|_=>x.2
def rmR:Fr:=[(8,.one (.i .i64 (.ln 0))),(7,.one (.sl 0 0 12)),(1,.one (.p 0 0)),(2,.one (.p 1 0)),(3,.one (.p 2 0))]
theorem Bp{B:Nat}{v:aY}{P:aF}(h:ax B w v P)(hB:B≤w.heap.size)(D:Cp P):Calls Tryz.prog 58 #[.agg (v.cells P).toArray] w (jw w (gT P)):=by
 obtain⟨R,hR⟩:∃R:Ending→World→Prop,R=jw w (gT P):=⟨_,rfl⟩;rw[←hR];have bc:P.QF.length≤2097152:=by obtain⟨_,_,_,_,hl,_⟩:=h.QF;exact hl
 refine fnE (cU v P) (fun _=>(0,0)) [.ag av] Tryz.func58 Tryz.ntmps58 rfl (by rw[List.map_cons,cX h (Agr.refl _ _)];rfl) ψ H0 (fun _ h=>h.elim) trivial fun a hd hh=>?_
 refine jK (CL:={}) (fun _=>true) [(1,.one (.p 0 0)),(2,.one (.p 1 0))] [(0,av),(1,[.l (.slice none 0 0)])] 2 [] δ hh eU fun L a1 w1 n1 p1=>?_
 refine jK (CL:={}) (fun _=>true) [(1,.one (.p 0 0)),(2,.one (.p 1 0)),(3,.one (.p 2 0))] [(0,av),(1,[.l (.slice none 0 0)]),(2,[.l (.slice none 0 0)])] 3 [] δ n1 eU fun κ2 a2 C n2 J=>?_
 obtain⟨x1,x2,x3⟩:=p1.new.row n1.mem (r:=1) rfl ψ ψ;obtain⟨y1,y2,y3⟩:=J.new.row n2.mem (r:=2) rfl ψ ψ;have u:∀q,q<2→(L q).1<w1.heap.size:=fun q O=>by
  match q,O with
  | 0,_=>exact(n1.mem.get 0 _ rfl).1.1
  | 1,_=>exact(n1.mem.get 1 _ rfl).1.1
 have e1:κ2 1=L 1:=J.upto 1 ψ;obtain⟨b,I⟩:∃b,b=(κ2 2).1:=⟨_,rfl⟩;rw[←I]at y1 y3;have a9:κ2 2=(b,0):=Prod.ext I.symm y2;have n3:=(n2.own J 2 (l:=[.l (.slice none 0 0)]) rfl ψ ψ [(0,av),(1,[.l (.slice none 0 0)])] (fun _=>some [.slice none 0 0]) 1 rfl δ rfl δ (fun q m hm O=>by rw[J.upto q O];exact u q O) (fun vs h=>by cases h;rfl)).1;have V:Kz w C:=p1.keep.trans J.keep fun _ _ h=>h
 refine bQ 1 (fun _=>true) ((9,.one (.i .i64 (.c 0)))::rmR) [(0,av),(1,[.l (.slice none 0 0)])] 3 [] hPp δ n3 fun κ3 a3 w3 n4 p3=>?_
 have H:κ3 2=(b,0):=(p3.upto 2 ψ).trans a9;have ad:aD (fun g=>g=b) C w3:=p3.keep.mono fun g _ h=>by rw[I];exact h
 have b2:b<C.heap.size:=y1.lt;have aa:w.heap.size≤b:=by have:=p1.keep.size;omega
 have i0:dy C b (rB P 0) ⟨none,0,0⟩ w3:=by
  obtain⟨us,u1,u2,u3⟩:=n4.gh;rw[u3 _ rfl,←I]at u2;exact dy.nil u2 fun q ⟨r,hr,_⟩=>by simp at hr
 refine bO (pn n4 P.QF.length 24 9 0 rmR (fun _=>true) slD (fun k e w=>dy C b (rB P k) e w) (fun _ _ _ _ hk h=>h.keep hk) ⟨none,0,0⟩ hPp δ rfl χ i0 (n4.has.re ⟨rfl,rfl,rfl,rfl,rfl,rfl,trivial⟩) (fun k e a4 K hk n5 hA hK=>?_) fun e a4 K n5 hA hK=>?_)
 ·obtain⟨x,W⟩:=ge hk
  have d:aD (fun g=>g=b) C K:=ad.trans (hK.mono fun g _ h=>by rw[I];exact h) fun _ _ h=>h
  have N:Kz w K:=aV V d fun g D=>by rw[show g=b from D];exact aa
  obtain⟨g,o,h1,h2,h3⟩:=dm h.QF (aJ _ _ _) hB N W;have bd:g<w.heap.size:=by
   obtain⟨g',o',Y,an,_⟩:=dm h.QF (aJ _ _ _) hB (aD.refl (fun _=>False) w) W;rw[h1]at Y
   cases Y
   exact an
  obtain⟨κ5,u5,n6⟩:=n5.elem (j:=0) (x:=nD x) (cl:=EW 32) h1 ⟨h2,fun e=>by have e:g=(κ2 2).1:=e;rw[←I]at e;omega⟩ hk h3.1 rfl δ;refine am (bQ 1 (fun _=>true) ((5,.one (.p 4 0))::fx 24 9 rmR) [(4,EW 32)] 5 [] hPp δ n6 fun κ6 a6 w6 X p6=>?_);have af:κ6 2=(b,0):=(p6.upto 2 ψ).trans ((u5 2 ψ).trans H);have Q:=h3.2;have n8:=X.lay 48 (sp2 (cg x.Q7 x.size)) δ;have n9:=(n8.more [] [(54,[.one (.i .u64 (.x 33)),.one (.i .u64 (.x 34))],.ag [.i .u64 (.x 48),.i .u64 (.x 49)])] [] hO (fun y hy w' hw=>by
   obtain rfl:=List.mem_singleton.1 hy;exact rV x.Q7 x.size Q.2.1 Q.2.2 w') (fun i x W=>by cases W)).ghm [(2,[.sl 24 25 26])] fun es w' hw D=>Row.memF af D.1
  obtain⟨r1,l,r2,r3,r4,r5,r6⟩:=(show dy C b (rB P k) e w6 from X.gh);have ac:=D.Qh x (List.mem_of_getElem? W);refine DL 6 63 2 (.ag [.sl 24 25 26]) (.ag [.i .u64 (.x 48),.i .u64 (.x 49)]) ((13,.ag [.sl 24 25 26])::(18,.ag [.i .u64 (.x 48),.i .u64 (.x 49)])::fx 24 9 rmR) (rB P (k+1)) C b hPp δ n9 af ⟨_,r1⟩ (by have:=d.size;have:=p6.keep.size;omega) (fun w' hw=>?_) fun a7 w7 f7 g7 k7 d7=>ch rfl ?_
  ·refine(zE (r3.keep hw) r5 (qn ac.1 ac.2 Q.2.1)).mono fun e2 be ⟨u2,l2,z1,z2,z3,z4,z5,z6⟩=>⟨u2,l2,z1,z2,z3,z4,fun q=>(z5 q).trans ?_,z6⟩
   rw[xl W,←r6,←rU]
  ·obtain⟨e',a0⟩:=g7.e
   refine⟨e',κ6,a0,fun r hr=>(p6.upto r (by show r<4;omega)).trans (u5 r hr),f7.re ⟨rfl,rfl,rfl,rfl,rfl,rfl,trivial⟩,?_,?_⟩
   ·exact hA.trans (p6.agree.trans ⟨f7.size.trans X.has.size.symm,d7,fun _ h=>by cases h⟩ fun _ h=>h) fun _ h=>h
   ·exact hK.trans ((p6.keep.mono fun _ _ h=>h).trans (k7.mono fun g _ h=>by show g=(κ2 2).1;rw[←I];exact h) fun _ _ h=>h) fun _ _ h=>h
 ·have d:aD (fun g=>g=b) C K:=ad.trans (hK.mono fun g _ h=>by rw[I];exact h) fun _ _ h=>h
  obtain⟨r1,l,r2,r3,r4,r5,r6⟩:=(show dy C b (rB P P.QF.length) e K from n5.gh);have U:κ3 1=L 1:=(p3.upto 1 ψ).trans e1;have a8:(L 1).1<C.heap.size:=by have:=u 1 ψ;have:=J.keep.size;omega
  have Z:(L 1).1≠b:=by have:=u 1 ψ;omega
  have n6:=((n5.mute H0 [(1,[.l (.slice none 0 0)])] [] δ (fun _ _ _ h=>h) (fun _ h=>h.elim) trivial).row 2 [.sl 24 25 26] (by rw[H]) (by rw[H];exact r1));have xz:Row K (κ3 1).1 [.slice none 0 0]:=by
   rw[U];exact(x1.keep J.keep (fun h=>h)).keep d Z
  refine nv (CL:={}) 1 1 [2] (fun _=>true) [(2,.one (.p 1 0))] [(1,[.sl 24 25 26])] 3 [] δ n6 eU (fun _=>xz.some) (fun q O=>by
   obtain rfl:=List.mem_singleton.1 O;rw[H,U];exact⟨r1.lt,fun _ e=>Z e.symm⟩) (fun _ _ _ _ _ _ _=>trivial) fun κ5 a5 w5 X u7 k7 g7 _ _=>km ?_
  have bb:κ5 1=L 1:=(u7 1 ψ).trans U;refine pX (t:=2) (r:=1) (E:=119) (v := .ag [.sl 24 25 26]) rfl X.has rfl δ X.mem.f (g7.defers.trans (hA.defers.trans (p3.agree.defers.trans (J.agree.defers.trans (p1.agree.defers.trans hd))))) ?_;rw[hR];have al:aD (fun g=>g=(L 1).1) K w5:=k7.mono fun g _ h=>by rcases h with h|h;exact h.elim;rw[bb]at h;exact h
  obtain⟨z1,z2⟩:=qL r4 a8 al;refine⟨.slice e.A e.n e.c,l,rfl,z1,fun q O=>z2 q (by have:=V.size;omega),r5,fun q=>(r6 q).trans ?_,?_⟩
  ·unfold rB gT
   rw[List.take_length]
  ·have N:Kz w K:=aV V d fun g D=>by rw[show g=b from D];exact aa
   exact aV N al fun g D=>by rw[show g=(L 1).1 from D];exact x3
end Rs
namespace Rs
open Go.RowKit Ck
variable {w:World}
def nK(w:World)(u:Value)(l:List Nat):Prop:=∃A c,u=.slice A l.length c∧l.length≤c∧l.length≤4194304∧(0<l.length→∃g,A=some ⟨g,0,none⟩∧g<w.heap.size∧∀(i x:Nat),l[i]?=some x→w.cell? ⟨g,i,none⟩=some (.int .u64 x))
theorem nK.keep{w':World}{u:Value}{l:List Nat}(h:nK w u l)(hk:Kz w w'):nK w' u l:=by
 obtain⟨A,c,e,q,v,y⟩:=h;refine⟨A,c,e,q,v,fun j=>?_⟩;obtain⟨g,e,d,B⟩:=y j;exact⟨g,e,Nat.lt_of_lt_of_le d hk.size,fun i x C=>(hk.cell (p:=⟨_,_,none⟩) d id).trans (B i x C)⟩
theorem AG{Z:Nat}{u:Value}{l:List Nat}(h:w.ownsRow Z 41 1 u l.length (l.map fun(x:Nat)=>Value.int .u64 x))(y:l.length≤4194304):nK w u l:=by
 rcases h.2 with⟨j,q⟩|⟨g,C,d,j,q,v,D,H,I,E⟩
 ·exact⟨none,0,by rw[j,q],χ,y,fun h=>χ⟩
 ·refine⟨_,_,j,D,y,fun _=>⟨g,rfl,eZ v,fun i x B=>?_⟩⟩
  refine i9 v ?_;have hi:=(List.getElem?_eq_some_iff.1 B).1;have:(d.toList.take (l.length*1))[i]?=some (Value.int .u64 (x:Nat)):=by rw[E,List.getElem?_map,B];rfl
  rw[List.getElem?_take_of_lt χ,Array.getElem?_toList]at this;exact this
def smS(A B:Option Addr)(na ca nb cb:Nat):Sta where
 a j:=match j with|0=>A|_=>B
 n j:=match j with|0=>na|1=>nb|2=>ca|_=>cb
def smD(x y:Nat):Sta where
 i j:=match j with|0=>x|_=>y
theorem zS{u1 u2:Value}{l1 l2:List Nat}(h1:nK w u1 l1)(h2:nK w u2 l2):Calls Tryz.prog 56 #[u1,u2] w fun e w'=>e=.returned (.bool (decide (l1=l2)))∧Kz w w':=by
 obtain⟨R,K⟩:∃R:Ending→World→Prop,R=fun e w'=>e=.returned (.bool (decide (l1=l2)))∧Kz w w':=⟨_,rfl⟩
 rw[←K];obtain⟨A,cA,e1,q1,q2,q3⟩:=h1;obtain⟨B,cB,e2,r1,r2,r3⟩:=h2;subst e1 e2;refine fnE (smS A B l1.length cA l2.length cB) (fun _=>(0,0)) [.one (.sl 0 0 2),.one (.sl 1 1 3)] Tryz.func56 Tryz.ntmps56 rfl rfl ψ H0 (fun _ h=>h.elim) trivial fun a W hh=>?_
 by_cases hl:l1.length=l2.length
 ·refine bQ 4 (fun _=>true) [(5,.one (.i .i64 (.c 0))),(0,.one (.sl 0 0 2)),(1,.one (.sl 1 1 3))] [] 0 [] hPp δ (hh.fa [(.cmp .neq (.ln 0) (.ln 1),false)] (fa1 (by
   show((l1.length:Int)!=(l2.length:Int))=false;rw[hl];simp))) fun κ1 a1 w1 N q=>?_
  refine bO (Er (ε:=Unit) N l1.length 24 5 0 [(0,.one (.sl 0 0 2)),(1,.one (.sl 1 1 3))] (fun _=>true) (fun _=>{}) (fun k _ _=>∀(j:Nat),j<k→l1[j]?=l2[j]?) (fun _ _ _ _ _ h=>h) () hPp δ rfl χ (fun j l=>absurd l (Nat.not_lt_zero _)) (N.has.re ⟨rfl,rfl,rfl,trivial⟩) (fun k e a4 w4 hk E I J=>?_) fun e a4 w4 E I J=>?_)
  ·obtain⟨x,L⟩:=ge hk
   obtain⟨y,Z⟩:=ge (show k<l2.length by omega);obtain⟨g,eg,hg,Y⟩:=q3 χ;obtain⟨g2,U,C,D⟩:=r3 χ;have d:Kz w w4:=q.keep.trans J fun _ _ h=>h
   have n5:=E.lay 32 (smD x y) δ;obtain⟨κ5,u5,_,n6⟩:=n5.base g k [.i .u64 (.x 32)] ⟨Nat.lt_of_lt_of_le hg d.size,fun h=>h⟩ (fun j v l=>by
    match j,l with
    | 0,l =>
     obtain rfl:=Option.some.inj l;exact(d.cell (p:=⟨_,_,none⟩) hg (fun h=>h)).trans (Y k x L)) [(0,1,.x 24,0,0)] δ (fun z hz=>by
    obtain rfl:=List.mem_singleton.1 hz;refine⟨?_,?_,g,0,eg,?_⟩
    ·show(0:Int)≤(k:Int);omega
    ·show(k:Int)<(l1.length:Int);omega
    ·show(g,k)=(g,0+(k:Int).toNat*1)
     congr 1
     omega)
   obtain⟨κ6,u6,_,n7⟩:=n6.base g2 k [.i .u64 (.x 33)] ⟨Nat.lt_of_lt_of_le C d.size,fun h=>h⟩ (fun j v l=>by
    match j,l with
    | 0,l =>
     obtain rfl:=Option.some.inj l;exact(d.cell (p:=⟨_,_,none⟩) C (fun h=>h)).trans (D k y Z)) [(1,1,.x 24,1,1)] δ (fun z hz=>by
    obtain rfl:=List.mem_singleton.1 hz;refine⟨?_,?_,g2,0,U,?_⟩
    ·show(0:Int)≤(k:Int);omega
    ·show(k:Int)<(l2.length:Int);omega
    ·show(g2,k)=(g2,0+(k:Int).toNat*1)
     congr 1
     omega)
   refine am (bQ 1 (fun _=>true) ((25,.one (.b (.cmp .neq (.x 32) (.x 33))))::fx 24 5 [(0,.one (.sl 0 0 2)),(1,.one (.sl 1 1 3))]) [] 2 [] hPp δ n7 fun κ7 a7 w7 O Q=>?_);have V:Kz w w7:=d.trans Q.keep fun _ _ h=>h
   have X:=Q.agree.defers.trans (I.defers.trans (q.agree.defers.trans W))
   by_cases hxy:x=y
   ·refine cD false O rfl (show((x:Int)!=(y:Int))=false by simp;omega) (fQ (ch rfl ?_))
    refine⟨(),κ7,fun j l=>?_,fun r hr=>absurd hr (by show ¬ r<0;omega),O.has.re ⟨rfl,rfl,rfl,trivial⟩,I.trans Q.agree fun _ h=>h,J.trans Q.keep fun _ _ h=>h⟩
    rcases Nat.lt_or_ge j k with c|c
    ·exact E.gh j c
    ·obtain rfl:j=k:=χ
     rw[L,Z,hxy]
   ·refine cD true O rfl (show((x:Int)!=(y:Int))=true by simp;omega) ?_
    refine eL 2 (fun _=>true) [(4,.one (.b (.c false)))] [] 2 [] hPp δ O fun κ8 a8 w8 n9 H=>bY (bi ?_)
    refine gS 4 rfl n9.has rfl (H.agree.defers.trans X) ?_;rw[K];refine⟨?_,V.trans H.keep fun _ _ h=>h⟩;rw[decide_eq_false fun e=>hxy (by rw[e,Z]at L;exact(Option.some.inj L).symm)];rfl
  ·have u:∀j,j<l1.length→l1[j]?=l2[j]?:=E.gh
   refine eL 2 (fun _=>true) [(4,.one (.b (.c true)))] [] 0 [] hPp δ E fun κ8 a8 w8 n9 H=>?_
   refine gS 4 rfl n9.has rfl (H.agree.defers.trans (I.defers.trans (q.agree.defers.trans W))) ?_;rw[K];refine⟨?_,(q.keep.trans J fun _ _ h=>h).trans H.keep fun _ _ h=>h⟩;rw[decide_eq_true (List.ext_getElem? fun j=>by
    rcases Nat.lt_or_ge j l1.length with c|c
    ·exact u j c
    ·rw[List.getElem?_eq_none c,List.getElem?_eq_none χ])]
   rfl
 ·refine eL 9 (fun _=>true) [(4,.one (.b (.c false)))] [] 0 [] hPp δ (hh.fa [(.cmp .neq (.ln 0) (.ln 1),true)] (fa1 (by
   show((l1.length:Int)!=(l2.length:Int))=true;simp;omega))) fun κ1 a1 w1 N q=>?_
  refine gS 4 rfl N.has rfl (q.agree.defers.trans W) ?_;rw[K];refine⟨?_,q.keep⟩;rw[decide_eq_false fun e=>hl (by rw[e])];rfl
def slS(A B:Option Addr)(na ca nb cb i1 i2:Nat)(g1 g2:Int)(b:Bool):Sta where
 a j:=match j with|0=>A|_=>B
 n j:=match j with|0=>na|1=>nb|2=>ca|_=>cb
 i j:=match j with|0=>i1|1=>g1|2=>i2|_=>g2
 b _:=b
def G3:List (FuncId×List SV×SV):=[(56,[.one (.sl 0 0 2),.one (.sl 1 1 3)],.one (.b (.x 0)))]
theorem xd{H I:Value}{l1 l2:List Nat}{i1 i2:Nat}{g1 g2:Int}(D:nK w H l1)(E:nK w I l2):Calls Tryz.prog 18 #[.agg #[H,.int .u64 i1,.int .i64 g1],.agg #[I,.int .u64 i2,.int .i64 g2]] w fun e w'=>e=.returned (.bool (decide (i1=i2∧g1=g2∧l1=l2)))∧Kz w w':=by
 obtain⟨R,j⟩:∃R:Ending→World→Prop,R=fun e w'=>e=.returned (.bool (decide (i1=i2∧g1=g2∧l1=l2)))∧Kz w w':=⟨_,rfl⟩
 rw[←j];have Q:=fun{w'} (hk:Kz w w')=>zS (D.keep hk) (E.keep hk)
 obtain⟨A,l,L,X,Y,Z⟩:=D;obtain⟨B,q,N,r1,r2,r3⟩:=E;subst L N;refine fnE (slS A B l1.length l l2.length q i1 i2 g1 g2 (decide (l1=l2))) (fun _=>(0,0)) [.ag [.sl 0 0 2,.i .u64 (.x 0),.i .i64 (.x 1)],.ag [.sl 1 1 3,.i .u64 (.x 2),.i .i64 (.x 3)]] Tryz.func18 Tryz.ntmps18 rfl rfl ψ H0 (fun _ h=>h.elim) trivial fun a u hh=>?_
 have n0:∀FA:List (BE×Bool),(∀y∈FA,y.1.den (slS A B l1.length l l2.length q i1 i2 g1 g2 (decide (l1=l2)))=y.2)→_:=fun FA O=>hh.more FA G3 [] O (fun y W w' U=>by
  obtain rfl:=List.mem_singleton.1 W;exact Q U) (fun i x V=>by cases V)
 by_cases hi:i1=i2
 ·have C:BE.den (slS A B l1.length l l2.length q i1 i2 g1 g2 (decide (l1=l2))) (.cmp .eql (.x 0) (.x 2))=true:=by
   show((i1:Int)==(i2:Int))=true;rw[hi];simp
  by_cases hg:g1=g2
  ·refine eL 9 (fun _=>true) [(4,.one (.b (.x 0)))] [] 2 [] hPp δ (n0 [(.cmp .eql (.x 0) (.x 2),true),(.cmp .eql (.x 1) (.x 3),true)] (vV C (by
    show(g1==g2)=true;rw[hg];simp))) fun K v J g d=>?_
   refine gS 4 rfl g.has rfl (d.agree.defers.trans u) ?_;rw[j];refine⟨?_,d.keep⟩;show Ending.returned (.bool (decide (l1=l2)))=_;simp[hi,hg]
  ·refine eL 9 (fun _=>true) [(4,.one (.b (.c false)))] [] 2 [] hPp δ (n0 [(.cmp .eql (.x 0) (.x 2),true),(.cmp .eql (.x 1) (.x 3),false)] (vV C (by
    show(g1==g2)=false
    simpa using hg))) fun K v J g d=>?_
   refine gS 4 rfl g.has rfl (d.agree.defers.trans u) ?_;rw[j];refine⟨?_,d.keep⟩;simp[hg];rfl
 ·refine eL 9 (fun _=>true) [(4,.one (.b (.c false)))] [] 2 [] hPp δ (n0 [(.cmp .eql (.x 0) (.x 2),false)] (fa1 (by
   show((i1:Int)==(i2:Int))=false;simp;omega))) fun K v J g d=>?_
  refine gS 4 rfl g.has rfl (d.agree.defers.trans u) ?_;rw[j];refine⟨?_,d.keep⟩;simp[hi];rfl
end Rs
namespace Rs
open Go.RowKit Ck
def lH(P:aF)(k:Nat):Nat→Prop:=fun q=>gT P q∧∀x∈P.Q3.take k,x.fixed=true→¬ rng x.Q7 x.size q
theorem od{P:aF}{k:Nat}{x:Ck.Region}(l:P.Q3[k]?=some x)(q:Nat):lH P (k+1) q↔lH P k q∧(x.fixed=true→¬ rng x.Q7 x.size q):=by
 unfold lH;rw[List.take_add_one,l];constructor
 ·rintro⟨h,g⟩
  exact⟨⟨h,fun y d=>g y (List.mem_append_left _ d)⟩,g x (List.mem_append_right _ ξ)⟩
 ·rintro⟨⟨h,g⟩,j⟩
  refine⟨h,fun y d=>?_⟩
  rcases List.mem_append.1 d with d|d
  ·exact g y d
  ·obtain rfl:y=x:=by simpa using d
   exact j
def frR:Fr:=[(10,.one (.i .i64 (.ln 2))),(9,.one (.sl 2 2 14)),(1,.one (.p 0 0)),(2,.one (.p 1 0)),(3,.one (.p 2 0))]
theorem Ao{B:Nat}{w:World}{v:aY}{P:aF}(h:ax B w v P)(hB:B≤w.heap.size)(C:Cp P):Calls Tryz.prog 50 #[.agg (v.cells P).toArray] w (jw w (cM P)):=by
 obtain⟨R,hR⟩:∃R:Ending→World→Prop,R=jw w (cM P):=⟨_,rfl⟩;rw[←hR];have bs:P.Q3.length≤2097152:=by obtain⟨_,_,_,_,V,_⟩:=h.Q3;exact V
 refine fnE (cU v P) (fun _=>(0,0)) [.ag av] Tryz.func50 Tryz.ntmps50 rfl (by rw[List.map_cons,cX h (Agr.refl _ _)];rfl) ψ H0 (fun _ h=>h.elim) trivial fun a hd hh=>?_
 refine jK (CL:={}) (fun _=>true) [(1,.one (.p 0 0)),(2,.one (.p 1 0))] [(0,av),(1,[.l (.slice none 0 0)])] 2 [] δ hh eU fun Q a1 N n1 p1=>?_
 obtain⟨x1,x2,x3⟩:=p1.new.row n1.mem (r:=1) rfl ψ ψ;refine uT 1 58 [.ag av] (.ag [.sl 24 25 26]) 24 (fun d w2=>∃e:SlE,d=slD e∧∃l,e.n=l.length∧bZ w2 (.slice e.A e.n e.c) l∧(∀q,q<N.heap.size→aK w2 q (.slice e.A e.n e.c) l)∧dl l∧∀q,aj l q↔gT P q) (fun _=>true) [(1,.one (.p 0 0)),(2,.one (.p 1 0)),(3,.one (.p 2 0))] [(0,av),(1,[.l (.slice none 0 0)]),(2,[.sl 24 25 26])] 3 δ n1 (fun w' af=>?_) fun κ2 a2 w2 d wt ⟨e0,be,l0,l1,l2,l3,l4,l5⟩ kt n2 Z=>?_
 ·rw[List.map_cons,cX h (Agr.refl _ _)]
  have hk:=K3 p1.keep af;refine(Bp (ax.kept h hB hk) (by have:=hk.size;omega) C).mono fun e bp ⟨u,l,y1,y2,y3,y4,y5,y6⟩=>?_
  obtain⟨A',c',rfl,_⟩:=id y2;exact⟨_,⟨⟨A',l.length,c'⟩,rfl,l,rfl,y2,fun q W=>y3 q (by have:=af.size;omega),y4,y5⟩,y1,y6⟩
 subst be;obtain⟨y1,y2,y3⟩:=Z.new.row n2.mem (r:=2) rfl ψ ψ;obtain⟨b,hb⟩:∃b,b=(κ2 2).1:=⟨_,rfl⟩;rw[←hb]at y1 y3;have bm:κ2 2=(b,0):=Prod.ext hb.symm y2;have H:∀q,q<2→(Q q).1<N.heap.size:=fun q W=>by
  match q,W with
  | 0,_=>exact(n1.mem.get 0 _ rfl).1.1
  | 1,_=>exact(n1.mem.get 1 _ rfl).1.1
 have e1:κ2 1=Q 1:=Z.upto 1 ψ;have bc:Kz w w2:=p1.keep.trans Z.keep fun _ _ h=>h
 refine bQ 1 (fun _=>true) ((11,.one (.i .i64 (.c 0)))::frR) [(0,av),(1,[.l (.slice none 0 0)]),(2,[.sl 24 25 26])] 3 [] hPp δ n2 fun κ3 a3 w3 n3 p3=>?_
 have K:κ3 2=(b,0):=(p3.upto 2 ψ).trans bm;have al:w.heap.size≤b:=by have:=p1.keep.size;omega
 have bt:N.heap.size≤b:=y3;have I:=y1.keep p3.keep (fun h=>h);have n4:=n3.mute (gB b 1 fun _=>none) [(0,av),(1,[.l (.slice none 0 0)])] [] δ (fun r l V e=>by
  have e:(κ3 r).1=b:=e;have hr:r<2:=by
   rw[cL]at V;split at V
   ·omega
   ·rw[cL]at V
    split at V
    ·omega
    ·cases V
  rw[p3.upto r (by show r<3;omega),Z.upto r hr]at e;have:=H r hr;omega) (fun g C=>by rw[show g=b from C];exact I.lt) ⟨_,rfl,I,fun vs h=>by cases h⟩
 have a0:aD (fun g=>g=b) w2 w3:=p3.keep.mono fun g _ h=>h.elim
 have i0:dy N b (lH P 0) e0 w3:=by
  have bb:Kz wt w3:=kt.trans p3.keep fun _ _ h=>h
  exact⟨I,l0,l1,l2.keep bb,fun q W=>aK.keep (l3 q W) (bb.mono fun _ _ h=>h.elim),l4,fun q=>(l5 q).trans ⟨fun h=>⟨h,fun x J=>by simp at J⟩,fun h=>h.1⟩⟩
 refine bO (pn n4 P.Q3.length 32 11 2 frR (fun _=>true) slD (fun k e w=>dy N b (lH P k) e w) (fun _ _ _ _ hk h=>h.keep hk) e0 hPp δ rfl χ i0 (n4.has.re ⟨rfl,rfl,rfl,rfl,rfl,rfl,trivial⟩) (fun k e a4 O hk n5 hA hK=>?_) fun e a4 O n5 hA hK=>?_)
 ·obtain⟨x,J⟩:=ge hk
  have D:aD (fun g=>g=b) w2 O:=a0.trans (hK.mono fun g _ h=>h) fun _ _ h=>h
  have U:Kz w O:=aV bc D fun g C=>by rw[show g=b from C];exact al
  obtain⟨g,o,h1,h2,h3⟩:=dm h.Q3 (aJ _ _ _) hB U J;have bw:g<w.heap.size:=by
   obtain⟨g',o',aa,bd,_⟩:=dm h.Q3 (aJ _ _ _) hB (aD.refl (fun _=>False) w) J;rw[h1]at aa
   cases aa
   exact bd
  obtain⟨κ5,u5,n6⟩:=n5.elem (j:=2) (x:=lj x) (cl:=pY 40) h1 ⟨h2,fun e=>by have e:g=b:=e;omega⟩ hk h3.1 rfl δ;refine am (bQ 2 (fun _=>true) ((5,.one (.p 4 0))::(16,.one (.b (.x 40)))::fx 32 11 frR) [(4,pY 40)] 5 [] hPp δ n6 fun κ6 a6 w6 L p6=>?_);have a8:κ6 2=(b,0):=(p6.upto 2 ψ).trans ((u5 2 ψ).trans K);have X:=h3.2;have an:=C.reg x (List.mem_of_getElem? J);obtain⟨r1,l,r2,r3,r4,r5,r6⟩:=(show dy N b (lH P k) e w6 from L.gh);have ad:∀r,r<3→κ6 r=κ3 r:=fun r hr=>(p6.upto r (by show r<4;omega)).trans (u5 r hr)
  cases hfx:x.fixed with
  | false =>
   refine cD false L rfl hfx (fQ (ch rfl ?_));refine⟨e,κ6,⟨r1,l,r2,r3,r4,r5,fun q=>(r6 q).trans ?_⟩,ad,L.has.re ⟨rfl,rfl,rfl,rfl,rfl,rfl,trivial⟩,hA.trans p6.agree fun _ h=>h,hK.trans p6.keep fun _ _ h=>h⟩;rw[od J];simp[hfx]
  | true =>
   refine cD true L rfl hfx ?_;have n8:=L.lay 56 (sp2 (cg x.Q7 x.size)) δ;have n9:=(n8.more [] [(54,[.one (.i .u64 (.x 42)),.one (.i .u64 (.x 41))],.ag [.i .u64 (.x 56),.i .u64 (.x 57)])] [] hO (fun y hy w' hw=>by
    obtain rfl:=List.mem_singleton.1 hy;exact rV x.Q7 x.size X.2.2.1 X.2.1 w') (fun i x J=>by cases J)).ghm [(2,[.sl 32 33 34])] fun es w' hw C=>Row.memF a8 C.1
   refine DL 6 53 2 (.ag [.sl 32 33 34]) (.ag [.i .u64 (.x 56),.i .u64 (.x 57)]) ((17,.ag [.sl 32 33 34])::(22,.ag [.i .u64 (.x 56),.i .u64 (.x 57)])::fx 32 11 frR) (lH P (k+1)) N b hPp δ n9 a8 ⟨_,r1⟩ (by have:=D.size;have:=p6.keep.size;have:=Z.keep.size;omega) (fun w' hw=>?_) fun a7 w7 f7 g7 k7 d7=>ch rfl ?_
   ·refine(me (r3.keep hw) r5 (qn (an.2 hfx) an.1 X.2.2.1)).mono fun e2 bp ⟨u2,l2,z1,z2,z3,z4,z5,z6⟩=>⟨u2,l2,z1,z2,z3,z4,fun q=>(z5 q).trans ?_,z6⟩
    rw[od J,←r6,←rU];simp[hfx]
   ·obtain⟨e',bf⟩:=g7.e
    refine⟨e',κ6,bf,ad,f7.re ⟨rfl,rfl,rfl,rfl,rfl,rfl,trivial⟩,?_,?_⟩
    ·exact hA.trans (p6.agree.trans ⟨f7.size.trans L.has.size.symm,d7,fun _ h=>by cases h⟩ fun _ h=>h) fun _ h=>h
    ·exact hK.trans ((p6.keep.mono fun _ _ h=>h).trans (k7.mono fun g _ h=>h) fun _ _ h=>h) fun _ _ h=>h
 ·have D:aD (fun g=>g=b) w2 O:=a0.trans (hK.mono fun g _ h=>h) fun _ _ h=>h
  obtain⟨r1,l,r2,r3,r4,r5,r6⟩:=(show dy N b (lH P P.Q3.length) e O from n5.gh);have Y:κ3 1=Q 1:=(p3.upto 1 ψ).trans e1;have bl:(Q 1).1<N.heap.size:=H 1 ψ;have ac:(Q 1).1≠b:=by have:=H 1 ψ;omega
  have n6:=((n5.mute H0 [(1,[.l (.slice none 0 0)])] [] δ (fun _ _ _ h=>h) (fun _ h=>h.elim) trivial).row 2 [.sl 32 33 34] (by rw[K]) (by rw[K];exact r1));have xz:Row O (κ3 1).1 [.slice none 0 0]:=by
   rw[Y];exact(x1.keep Z.keep (fun h=>h)).keep D ac
  refine nv (CL:={}) 1 1 [2] (fun _=>true) [(2,.one (.p 1 0))] [(1,[.sl 32 33 34])] 3 [] δ n6 eU (fun _=>xz.some) (fun q W=>by
   obtain rfl:=List.mem_singleton.1 W;rw[K,Y];exact⟨r1.lt,fun _ e=>ac e.symm⟩) (fun _ _ _ _ _ _ _=>trivial) fun κ5 a5 w5 L u7 k7 g7 _ _=>km ?_
  have bo:κ5 1=Q 1:=(u7 1 ψ).trans Y;refine pX (t:=2) (r:=1) (E:=119) (v := .ag [.sl 32 33 34]) rfl L.has rfl δ L.mem.f (g7.defers.trans (hA.defers.trans (p3.agree.defers.trans (Z.agree.defers.trans (p1.agree.defers.trans hd))))) ?_;rw[hR];have a9:aD (fun g=>g=(Q 1).1) O w5:=k7.mono fun g _ h=>by rcases h with h|h;exact h.elim;rw[bo]at h;exact h
  obtain⟨z1,z2⟩:=qL r4 bl a9;refine⟨.slice e.A e.n e.c,l,rfl,z1,fun q W=>z2 q (by have:=p1.keep.size;omega),r5,fun q=>(r6 q).trans ?_,?_⟩
  ·unfold lH cM
   rw[List.take_length]
  ·have U:Kz w O:=aV bc D fun g C=>by rw[show g=b from C];exact al
   exact aV U a9 fun g C=>by rw[show g=(Q 1).1 from C];exact x3
