import Derived.Test.YthobcefghkeddaaGreatDoorPl6
import Derived.Test.YthobcefghkeddaaGreatDoorMaps
set_option maxRecDepth 100000
set_option linter.all false
set_option maxHeartbeats 4000000
namespace Go.Proofs.YthobcefghkeddaaGreatDoor
namespace Rs
open Go.RowKit Ck
variable {w:World}
def bS(x y:Bool):Sta where
 b j:=match j with|0=>x|_=>y
theorem C2(b1 b2:Bool)(w:World):Calls Tryz.prog 137 #[.bool b1,.bool b2] w fun e w'=>e=.returned (.bool (b1||b2))∧Kz w w':=by
 refine fnE (bS b1 b2) (fun _=>(0,0)) [.one (.b (.x 0)),.one (.b (.x 1))] Tryz.func137 Tryz.ntmps137 rfl rfl ψ H0 (fun _ h=>h.elim) trivial fun a j hh=>?_
 cases b1 with
 | true =>
  refine eL 3 (fun _=>true) [(4,.one (.b (.c true)))] [] 0 [] hPp δ (hh.fa [(.x 0,true)] (fa1 rfl)) fun u l q g d=>?_
  exact gS 4 rfl g.has rfl (d.agree.defers.trans j) ⟨rfl,d.keep⟩
 | false =>
  refine eL 3 (fun _=>true) [(4,.one (.b (.x 1)))] [] 0 [] hPp δ (hh.fa [(.x 0,false)] (fa1 rfl)) fun u l q g d=>?_
  exact gS 4 rfl g.has rfl (d.agree.defers.trans j) ⟨rfl,d.keep⟩
theorem yN(b1 b2:Bool)(w:World):Calls Tryz.prog 134 #[.bool b1,.bool b2] w fun e w'=>e=.returned (.bool (b1 && !b2))∧Kz w w':=by
 refine fnE (bS b1 b2) (fun _=>(0,0)) [.one (.b (.x 0)),.one (.b (.x 1))] Tryz.func134 Tryz.ntmps134 rfl rfl ψ H0 (fun _ h=>h.elim) trivial fun a j hh=>?_
 cases b1 with
 | true =>
  refine eL 3 (fun _=>true) [(4,.one (.b (.not (.x 1))))] [] 0 [] hPp δ (hh.fa [(.x 0,true)] (fa1 rfl)) fun u l q g d=>?_
  exact gS 4 rfl g.has rfl (d.agree.defers.trans j) ⟨rfl,d.keep⟩
 | false =>
  refine eL 3 (fun _=>true) [(4,.one (.b (.c false)))] [] 0 [] hPp δ (hh.fa [(.x 0,false)] (fa1 rfl)) fun u l q g d=>?_
  exact gS 4 rfl g.has rfl (d.agree.defers.trans j) ⟨rfl,d.keep⟩
def xZ(AA AB:Option Addr)(na ca nb cb:Nat):Sta where
 a j:=match j with|1=>AA|_=>AB
 n j:=match j with|1=>na|2=>ca|3=>nb|_=>cb
def mY(w0:World)(b:Nat)(φ:Nat→Prop)(w:World):Prop:=∃u l,Row w b [u]∧bZ w u l∧(∀q,q<w0.heap.size→aK w q u l)∧dl l∧∀q,aj l q↔φ q
theorem mY.keep{d w':World}{b:Nat}{φ:Nat→Prop}(hk:Kz w w')(h:mY d b φ w):mY d b φ w':=by
 obtain⟨u,l,g,j,y,v,x⟩:=h;exact⟨u,l,g.keep hk id,j.keep hk,fun q B=>aK.keep (y q B) (hk.mono fun _ _ h=>h.elim),v,x⟩
def setH(w0:World)(b:Nat)(φ:Nat→Prop):Gh:=Gh.two (fun g=>g=b) (fun w=>∃v,Row w b [v]) (mY w0 b φ) (fun _ _ hk ⟨v,h⟩=>⟨v,h.keep hk id⟩) (fun _ _ hk h=>h.keep hk)
theorem mY.of{C j w:World}{b:Nat}{φ:Nat→Prop}{e:Ending}(W:C.heap.size≤j.heap.size)(d:∃v,Row j b [v])(h:jw j φ e w):∃vs:List Value,e=.returned (.agg vs.toArray)∧vs.length=1∧(∀u∈vs,u.oneCell'=true)∧Kz j w∧∃cs E0,w.heap[b]?=some (.cells cs E0 (0,0))∧0+0+1≤cs.size∧mY C b φ (w.setRow b (bn cs (0+0) vs)):=by
 obtain⟨v,d⟩:=d;obtain⟨u,l,K,L,y,N,O,hk⟩:=h;obtain⟨cs,E0,c1,c2,D⟩:=(d.keep hk id).all (vs:=[u]) rfl;refine⟨[u],K,rfl,fun x Q=>?_,hk,cs,E0,c1,c2,u,l,D,?_,fun q V=>?_,N,O⟩
 ·obtain rfl:=List.mem_singleton.1 Q
  obtain⟨A,c,rfl,_⟩:=L;rfl
 ·exact aK.r (aK.keep (y b d.lt) (dG _ _ _ rfl))
 ·obtain⟨A,c,E,R,e3,e4⟩:=y q χ
  refine aK.other (aK.keep (y b d.lt) (dG _ _ _ rfl)) fun J g n c B=>?_
  rw[E]at B
  cases B
  obtain⟨U,H,_,I,_⟩:=e4 J
  cases H
  exact I
theorem uh{A B:List Sp}{Y Z:Value}(N:bZ w Y A)(O:bZ w Z B)(pA:dl A)(pB:dl B):Calls Tryz.prog 115 #[.agg #[Y],.agg #[Z]] w (jw w fun q=>aj A q∨aj B q):=by
 obtain⟨R,Q⟩:∃R:Ending→World→Prop,R=jw w fun q=>aj A q∨aj B q:=⟨_,rfl⟩
 rw[←Q];obtain⟨AA,H,eA,lA,aa,_⟩:=id N;obtain⟨AB,I,eB,lB,ac,_⟩:=id O;subst eA eB;refine fnE (xZ AA AB A.length H B.length I) (fun _=>(0,0)) [.ag [.sl 1 1 2],.ag [.sl 2 3 4]] Tryz.func115 Tryz.ntmps115 rfl rfl ψ H0 (fun _ h=>h.elim) trivial fun a hd hh=>?_
 refine jK (CL:={}) (fun _=>true) [(2,.one (.p 0 0)),(3,.one (.p 1 0)),(4,.one (.p 2 0))] [(0,[.sl 1 1 2]),(1,[.sl 2 3 4]),(2,[.l (.slice none 0 0)])] 3 [] δ hh eU fun C a1 w1 W D=>?_
 obtain⟨x1,x2,x3⟩:=D.new.row W.mem (r:=2) rfl ψ ψ;have n2:=((W.own D 2 (l:=[.l (.slice none 0 0)]) rfl ψ ψ [(0,[.sl 1 1 2]),(1,[.sl 2 3 4])] (fun _=>none) 1 rfl δ rfl δ (fun q m hm hq=>absurd hq (Nat.not_lt_zero _)) (fun vs h=>by cases h)).1).setH (setH w (C 2).1 fun q=>aj A q∨aj B q) (fun _=>Iff.rfl) [] ⟨_,x1⟩;have V:∀{w'},aD (fun g=>g=(C 2).1) w1 w'→Kz w w':=fun{w'} hk=>aV D.keep hk fun g J=>by rw[show g=(C 2).1 from J];exact x3
 refine EP (CL:={}) 2 2 0 1 133 [.ag [.sl 1 1 2],.ag [.sl 2 3 4],.one (.l (.func (.func 137) #[] #[]))] [] (fun _=>true) [(4,.one (.p 2 0))] [] 3 δ n2 eU rfl (fun w2 hk J=>?_) fun κ3 a3 w3 X K=>km ?_
 ·rw[x2]
  have d:=V hk;refine(sd (keep:=fun x y=>x||y) (.inl rfl) (N.keep d) (O.keep d) pA pB rfl (fun b1 b2 w=>C2 b1 b2 w)).mono fun e w4 h=>mY.of d.size J ?_
  obtain⟨u,l,h1,h2,h3,h4,h5,h6⟩:=h;exact⟨u,l,h1,h2,h3,h4,fun q=>(h5 q).trans (by simp[iX,←Bool.not_eq_true]),h6⟩
 ·have U:=K.upto 2 ψ
  obtain⟨u,l,g1,g2,g3,g4,g5⟩:=(show mY w (C 2).1 (fun q=>aj A q∨aj B q) w3 from X.gh);obtain⟨A',L,rfl,_⟩:=id g2;have f4:Has (xZ AA AB A.length H B.length I |>.put 16 { a:=fun _=>A',n:=fun j=>match j with|0=>l.length|_=>L }) κ3 8 [(4,.one (.p 2 0))] a3:=X.has.on (aS _ 16 _) δ;have hM:gI (xZ AA AB A.length H B.length I |>.put 16 { a:=fun _=>A',n:=fun j=>match j with|0=>l.length|_=>L }) κ3 [(2,[.sl 16 16 17])] w3:=Row.memF (b:=(C 2).1) (Prod.ext (by rw[U]) (by rw[U];exact x2)) g1;refine pX (t:=4) (r:=2) (E:=119) (v := .ag [.sl 16 16 17]) rfl f4 rfl δ hM (K.agree.defers.trans (D.agree.defers.trans hd)) ?_;rw[Q];exact⟨_,l,rfl,g2,g3,g4,g5,V K.keep⟩
theorem fo{A B:List Sp}{Y Z:Value}(N:bZ w Y A)(O:bZ w Z B)(pA:dl A)(pB:dl B):Calls Tryz.prog 110 #[.agg #[Y],.agg #[Z]] w (jw w fun q=>aj A q∧¬ aj B q):=by
 obtain⟨R,Q⟩:∃R:Ending→World→Prop,R=jw w fun q=>aj A q∧¬ aj B q:=⟨_,rfl⟩
 rw[←Q];obtain⟨AA,H,eA,lA,aa,_⟩:=id N;obtain⟨AB,I,eB,lB,ac,_⟩:=id O;subst eA eB;refine fnE (xZ AA AB A.length H B.length I) (fun _=>(0,0)) [.ag [.sl 1 1 2],.ag [.sl 2 3 4]] Tryz.func110 Tryz.ntmps110 rfl rfl ψ H0 (fun _ h=>h.elim) trivial fun a hd hh=>?_
 refine jK (CL:={}) (fun _=>true) [(2,.one (.p 0 0)),(3,.one (.p 1 0)),(4,.one (.p 2 0))] [(0,[.sl 1 1 2]),(1,[.sl 2 3 4]),(2,[.l (.slice none 0 0)])] 3 [] δ hh eU fun C a1 w1 W D=>?_
 obtain⟨x1,x2,x3⟩:=D.new.row W.mem (r:=2) rfl ψ ψ;have n2:=((W.own D 2 (l:=[.l (.slice none 0 0)]) rfl ψ ψ [(0,[.sl 1 1 2]),(1,[.sl 2 3 4])] (fun _=>none) 1 rfl δ rfl δ (fun q m hm hq=>absurd hq (Nat.not_lt_zero _)) (fun vs h=>by cases h)).1).setH (setH w (C 2).1 fun q=>aj A q∧¬ aj B q) (fun _=>Iff.rfl) [] ⟨_,x1⟩;have V:∀{w'},aD (fun g=>g=(C 2).1) w1 w'→Kz w w':=fun{w'} hk=>aV D.keep hk fun g J=>by rw[show g=(C 2).1 from J];exact x3
 refine EP (CL:={}) 2 2 0 1 133 [.ag [.sl 1 1 2],.ag [.sl 2 3 4],.one (.l (.func (.func 134) #[] #[]))] [] (fun _=>true) [(4,.one (.p 2 0))] [] 3 δ n2 eU rfl (fun w2 hk J=>?_) fun κ3 a3 w3 X K=>km ?_
 ·rw[x2]
  have d:=V hk;refine(sd (keep:=fun x y=>x && !y) (.inr rfl) (N.keep d) (O.keep d) pA pB rfl (fun b1 b2 w=>yN b1 b2 w)).mono fun e w4 h=>mY.of d.size J ?_
  obtain⟨u,l,h1,h2,h3,h4,h5,h6⟩:=h;exact⟨u,l,h1,h2,h3,h4,fun q=>(h5 q).trans (by simp[iX,←Bool.not_eq_true]),h6⟩
 ·have U:=K.upto 2 ψ
  obtain⟨u,l,g1,g2,g3,g4,g5⟩:=(show mY w (C 2).1 (fun q=>aj A q∧¬ aj B q) w3 from X.gh);obtain⟨A',L,rfl,_⟩:=id g2;have f4:Has (xZ AA AB A.length H B.length I |>.put 16 { a:=fun _=>A',n:=fun j=>match j with|0=>l.length|_=>L }) κ3 8 [(4,.one (.p 2 0))] a3:=X.has.on (aS _ 16 _) δ;have hM:gI (xZ AA AB A.length H B.length I |>.put 16 { a:=fun _=>A',n:=fun j=>match j with|0=>l.length|_=>L }) κ3 [(2,[.sl 16 16 17])] w3:=Row.memF (b:=(C 2).1) (Prod.ext (by rw[U]) (by rw[U];exact x2)) g1;refine pX (t:=4) (r:=2) (E:=119) (v := .ag [.sl 16 16 17]) rfl f4 rfl δ hM (K.agree.defers.trans (D.agree.defers.trans hd)) ?_;rw[Q];exact⟨_,l,rfl,g2,g3,g4,g5,V K.keep⟩
end Rs
namespace Rs
open Go.RowKit Ck
variable {w:World}
theorem Bq{l:List Sp}(h:fN l)(H:∀p q,p / 4096=q / 4096→aj l p→aj l q)(y:∀p,aj l p→p<4294967296):dl l:=by
 refine⟨h,fun s x=>?_⟩;obtain⟨i,hi⟩:=List.getElem?_of_mem x;have K:=h.some_ s x;have C:aj l s.1:=⟨s,x,χ,χ⟩;have v:aj l s.2:=⟨s,x,χ,χ⟩;have w:∀(j:Nat) (t:Sp),l[j]?=some t→j≠i→t.2+1<s.1∨s.2+1<t.1:=fun j t B g=>by
  obtain⟨d,D⟩:=List.getElem?_eq_some_iff.1 hi;obtain⟨u,E⟩:=List.getElem?_eq_some_iff.1 B
  rcases Nat.lt_trichotomy i j with c|c|c
  ·have:=List.pairwise_iff_getElem.1 h.apart i j d u c
   rw[D,E]at this;exact .inr this
  ·exact absurd c.symm g
  ·have:=List.pairwise_iff_getElem.1 h.apart j i u d c
   rw[D,E]at this;exact .inl this
 have own:∀q,aj l q→s.1≤q+1→q≤s.2+1→s.1≤q∧q≤s.2:=fun q ⟨t,B,I,J⟩ L N=>by
  obtain⟨j,g⟩:=List.getElem?_of_mem B
  by_cases c:j=i
  ·subst c;rw[hi]at g;obtain rfl:=Option.some.inj g;exact⟨I,J⟩
  ·rcases w j t g c with c|c<;>omega
 refine⟨?_,?_,y _ v⟩
 ·rcases Nat.eq_zero_or_pos (s.1%4096)with c|c
  ·exact c
  ·have:=own (s.1-1) (H s.1 (s.1-1) χ C) χ χ
   omega
 ·rcases Nat.eq_zero_or_pos ((s.2+1)%4096)with c|c
  ·exact c
  ·have:=own (s.2+1) (H s.2 (s.2+1) χ v) χ χ
   omega
structure XOk (x:Sp):Prop where
 l1:x.1<lim
 l2:x.2<lim
 ok:x.1≤x.2→x.1%4096=0∧(x.2+1)%4096=0∧x.2<4294967296
theorem XOk.set{x:Sp}(h:XOk x){l:List Sp}(w:fN l)(d:∀p,aj l p↔aj [x] p):dl l:=by
 have one:∀p,aj [x] p↔x.1≤p∧p≤x.2:=fun p=>by simp[aj]
 refine Bq w (fun p q e g=>?_) fun p g=>?_
 ·rw[d,one]at g⊢
  obtain⟨j,u,v⟩:=h.ok χ;omega
 ·rw[d,one]at g
  obtain⟨j,u,v⟩:=h.ok χ;omega
def wiS(AA:Option Addr)(na ca:Nat)(x:Sp):Sta where
 a _:=AA
 n j:=match j with|1=>na|_=>ca
 i j:=match j with|0=>x.1|_=>x.2
def wiF:Fr:=[(2,.one (.p 0 0)),(3,.one (.p 1 0)),(4,.one (.p 2 0)),(5,.ag [.sl 1 1 2]),(6,.ag [.i .u64 (.x 0),.i .u64 (.x 1)])]
def wiV(w0:World)(b:Nat)(x:Sp)(φ:Nat→Prop)(j:Nat)(w:World)(v:Value):Prop:=
 match j with
 | 2=>aK w b v [x]
 | 3=>∃u l,v=.agg #[u]∧bZ w u l∧dl l∧∀q,aj l q↔aj [x] q
 | _=>∃u l,v=.agg #[u]∧bZ w u l∧(∀q,q<w0.heap.size∨q=b→aK w q u l)∧dl l∧∀q,aj l q↔φ q
theorem zF{g:World}{b:Nat}{x:Sp}{φ:Nat→Prop}(j:Nat)(w w':World)(v:Value)(hk:Kz w w')(h:wiV g b x φ j w v):wiV g b x φ j w' v:=by
 match j,h with
 | 2,h=>exact aK.keep h (hk.mono fun _ _ h=>h.elim)
 | 3,⟨u,l,h1,h2,h3⟩=>exact⟨u,l,h1,h2.keep hk,h3⟩
 | 0,⟨u,l,h1,h2,h3,h4⟩=>exact⟨u,l,h1,h2.keep hk,fun q d=>aK.keep (h3 q d) (hk.mono fun _ _ h=>h.elim),h4⟩
 | 1,⟨u,l,h1,h2,h3,h4⟩=>exact⟨u,l,h1,h2.keep hk,fun q d=>aK.keep (h3 q d) (hk.mono fun _ _ h=>h.elim),h4⟩
 | n+4,⟨u,l,h1,h2,h3,h4⟩=>exact⟨u,l,h1,h2.keep hk,fun q d=>aK.keep (h3 q d) (hk.mono fun _ _ h=>h.elim),h4⟩
theorem qM{w:World}{b:Nat}{x:Sp}(j:b<w.heap.size)(g:x.1<lim)(h:x.2<lim)(E:TypeId):aK (w.alloc (.cells #[.int .u64 x.1,.int .u64 x.2] E)) b (.slice (some ⟨w.heap.size,0,none⟩) 1 1) [x]:=by
 refine⟨_,1,rfl,ξ,ξ,fun _=>⟨_,rfl,ξ,χ,fun i s d=>?_⟩⟩
 match i,d with
 | 0,d =>
  obtain rfl:=Option.some.inj d;exact⟨by rw[World.cell?_alloc_at _ _ _ _ rfl];rfl,by rw[World.cell?_alloc_at _ _ _ _ rfl];rfl,g,h⟩
theorem zE{A:List Sp}{uA:Value}{x:Sp}(hA:bZ w uA A)(pA:dl A)(V:XOk x):Calls Tryz.prog 63 #[.agg #[uA],.agg #[.int .u64 x.1,.int .u64 x.2]] w (jw w fun q=>aj A q∨(x.1≤q∧q≤x.2)):=by
 obtain⟨R,hR⟩:∃R:Ending→World→Prop,R=jw w fun q=>aj A q∨(x.1≤q∧q≤x.2):=⟨_,rfl⟩
 rw[←hR];obtain⟨AA,cA,eA,lA,af,_⟩:=id hA;subst eA;refine fnE (wiS AA A.length cA x) (fun _=>(0,0)) [.ag [.sl 1 1 2],.ag [.i .u64 (.x 0),.i .u64 (.x 1)]] Tryz.func63 Tryz.ntmps63 rfl rfl ψ H0 (fun _ h=>h.elim) trivial fun a hd hh=>?_
 refine jK (CL:={}) (fun _=>true) [(2,.one (.p 0 0)),(3,.one (.p 1 0)),(4,.one (.p 2 0))] [(0,[.sl 1 1 2]),(1,[.i .u64 (.x 0),.i .u64 (.x 1)]),(2,[.l (.slice none 0 0)])] 3 [] δ hh eU fun Z a1 w1 n1 W=>?_
 obtain⟨N,x2,x3⟩:=W.new.row n1.mem (r:=2) rfl ψ ψ;obtain⟨b,hb⟩:∃b,b=(Z 2).1:=⟨_,rfl⟩;rw[←hb]at N x3;have ac:∀q,aj [x] q↔x.1≤q∧q≤x.2:=fun q=>by simp[aj]
 refine tN 2 5 wiF (wiV w b x fun q=>aj A q∨(x.1≤q∧q≤x.2)) hPp δ n1 zF (fun i o h2 h5 J d w' K hk C hv Q=>?_) fun o J d w' hk H C hv=>?_
 ·rcases(show i=2∨i=3∨i=4 by omega)with rfl|rfl|rfl
  ·obtain rfl:=Option.some.inj J
   obtain⟨it,zt,i1,i2,i3,i4,i5⟩:=(show yy Tryz.prog 117 125 2 16 from⟨Tryz.underlying117,δ,ψ,ψ⟩).info;have e6:d.eval (.tmp 6)=.agg #[.int .u64 x.1,.int .u64 x.2]:=C.ev (x := .tmp 6) (v := .ag [.i .u64 (.x 0),.i .u64 (.x 1)]) δ;refine wp_buildSlice 117 125 1 _ rfl #[.int .u64 x.1,.int .u64 x.2] it zt Tryz.underlying117 i1 i2 (by rw[i3];decide) (by rw[i3];decide) ?_ ?_
   ·simp only[List.map_toArray,List.map_cons,List.map_nil]
    rw[i3,e6,lL 2 _ _ rfl ξ];rfl
   ·exact Q _ _ ((aD.refl _ _).alloc _) (qM (by have:=N.lt;have:=hk.size;omega) V.l1 V.l2 125)
  ·obtain⟨v,h7,O⟩:=hv 2 7 ψ ψ (by rw[show o=_ from(Option.some.inj J).symm];kernel_rfl) rfl
   obtain rfl:=Option.some.inj J;have O:aK w' b v [x]:=O;unfold Oper.wp;rw[execOp_call_go,cQ (f:=111) δ];have e7:d.eval (.tmp 7)=v:=h7.eval (by rw[C.size];decide);rw[show(#[]++(#[Operand.tmp 7]:Array Operand).map d.eval ++ #[]:Array Value) = #[d.eval (.tmp 7)] from ξ,e7];refine(ul O (by have:=N.lt;have:=hk.size;omega) (fun s hs=>by
    obtain rfl:=List.mem_singleton.1 hs;exact⟨V.l1,V.l2⟩)).mono fun e w2 ⟨u,l,he,X,D,Y,q4⟩=>?_
   subst he;exact Q _ _ q4 ⟨u,l,rfl,aK.r (Y b (by have:=N.lt;have:=hk.size;omega)),V.set X D,D⟩
  ·obtain⟨v,h7,O⟩:=hv 3 8 ψ ψ (by rw[show o=_ from(Option.some.inj J).symm];kernel_rfl) rfl
   obtain rfl:=Option.some.inj J;obtain⟨u,l,rfl,X,D,Y⟩:=(show ∃u l,v=.agg #[u]∧bZ w' u l∧dl l∧∀q,aj l q↔aj [x] q from O);unfold Oper.wp;rw[execOp_call_go,cQ (f:=115) δ];have e8:d.eval (.tmp 8)=.agg #[u]:=h7.eval (by rw[C.size];decide);have e5:d.eval (.tmp 5)=.agg #[.slice AA A.length cA]:=C.ev (x := .tmp 5) (v := .ag [.sl 1 1 2]) δ;rw[show(#[]++(#[Operand.tmp 5,Operand.tmp 8]:Array Operand).map d.eval ++ #[]:Array Value) = #[d.eval (.tmp 5),d.eval (.tmp 8)] from ξ,e5,e8];refine(uh (hA.keep (W.keep.trans hk fun _ _ h=>h)) X pA D).mono fun e w2 ⟨u2,l2,he,y1,y2,y3,y4,y5⟩=>?_
   subst he;refine Q _ _ y5 ⟨u2,l2,rfl,y1,fun q U=>y2 q ?_,y3,fun q=>(y4 q).trans (by simp only[Y,ac])⟩;have:=N.lt;have:=hk.size;have:=W.keep.size
   rcases U with U|U<;>omega
 ·obtain⟨v,h9,aa⟩:=hv 4 9 ψ ψ rfl
  obtain rfl:=Option.some.inj J;obtain⟨u,l,rfl,X,D,Y,q4⟩:=(show ∃u l,v=.agg #[u]∧bZ w' u l∧(∀q,q<w.heap.size∨q=b→aK w' q u l)∧dl l∧∀q,aj l q↔aj A q∨(x.1≤q∧q≤x.2) from aa);obtain⟨A',B,rfl,_⟩:=id X;have e9:d.eval (.tmp 9)=.agg #[.slice A' l.length B]:=h9.eval (by rw[C.size];decide);have e4:d.eval (.tmp 4)=.pointer (some ⟨b,0,none⟩):=by
   rw[C.ev (x := .tmp 4) (v := .one (.p 2 0)) δ];show Value.pointer (some ⟨(Z 2).1,(Z 2).2+0,none⟩)=_;rw[←hb,x2]
  obtain⟨cs,E0,c1,c2,c3⟩:=(N.keep hk (fun h=>h)).all (vs:=[Value.slice A' l.length B]) rfl;refine bR rfl fun K Q=>?_
  unfold Oper.wp;rw[dI (vs:=[Value.slice A' l.length B]) (b:=b) (off:=0) (x := .tmp 4) (y := .tmp 9) (cs:=cs) (E0:=E0) rfl e4 (by rw[e9];rfl) (fun u L=>by obtain rfl:=List.mem_singleton.1 L;rfl) δ (Nat.one_pos) c1 (by simpa using c2)];have I:aD (fun g=>g=b) w' (w'.setRow b (bn cs 0 [Value.slice A' l.length B])):=dG _ _ _ rfl;refine Q _ _ (ln (km ?_));have f4:Has (wiS AA A.length cA x |>.put 16 { a:=fun _=>A',n:=fun j=>match j with|0=>l.length|_=>B }) Z 10 [(4,.one (.p 2 0))] d:=(C.sub δ).on (aS _ 16 _) δ;have hM:gI (wiS AA A.length cA x |>.put 16 { a:=fun _=>A',n:=fun j=>match j with|0=>l.length|_=>B }) Z [(2,[.sl 16 16 17])] (w'.setRow b (bn cs 0 [Value.slice A' l.length B])):=Row.memF (b:=b) (Prod.ext hb.symm x2) c3;refine pX (t:=4) (r:=2) (E:=119) (v := .ag [.sl 16 16 17]) rfl f4 rfl δ hM (H.defers.trans (W.agree.defers.trans hd)) ?_;rw[hR];refine⟨_,l,rfl,aK.r (aK.keep (D b (.inr rfl)) I),fun q U=>aK.other (aK.keep (D b (.inr rfl)) I) fun h0 g n c L=>?_,Y,q4,aV (W.keep.trans hk fun _ _ h=>h) I fun g hg=>by rw[show g=b from hg];exact x3⟩;obtain⟨A2,ad,e1,_,_,e2⟩:=D q (.inl U);obtain⟨g',e3,_,e4,_⟩:=e2 h0;have L:Value.slice A' l.length B=.slice (some ⟨g,0,none⟩) n c:=L;rw[e1,e3]at L
  cases L
  exact e4
theorem me{A:List Sp}{uA:Value}{x:Sp}(hA:bZ w uA A)(pA:dl A)(V:XOk x):Calls Tryz.prog 53 #[.agg #[uA],.agg #[.int .u64 x.1,.int .u64 x.2]] w (jw w fun q=>aj A q∧¬ (x.1≤q∧q≤x.2)):=by
 obtain⟨R,hR⟩:∃R:Ending→World→Prop,R=jw w fun q=>aj A q∧¬ (x.1≤q∧q≤x.2):=⟨_,rfl⟩
 rw[←hR];obtain⟨AA,cA,eA,lA,af,_⟩:=id hA;subst eA;refine fnE (wiS AA A.length cA x) (fun _=>(0,0)) [.ag [.sl 1 1 2],.ag [.i .u64 (.x 0),.i .u64 (.x 1)]] Tryz.func53 Tryz.ntmps53 rfl rfl ψ H0 (fun _ h=>h.elim) trivial fun a hd hh=>?_
 refine jK (CL:={}) (fun _=>true) [(2,.one (.p 0 0)),(3,.one (.p 1 0)),(4,.one (.p 2 0))] [(0,[.sl 1 1 2]),(1,[.i .u64 (.x 0),.i .u64 (.x 1)]),(2,[.l (.slice none 0 0)])] 3 [] δ hh eU fun Z a1 w1 n1 W=>?_
 obtain⟨N,x2,x3⟩:=W.new.row n1.mem (r:=2) rfl ψ ψ;obtain⟨b,hb⟩:∃b,b=(Z 2).1:=⟨_,rfl⟩;rw[←hb]at N x3;have ac:∀q,aj [x] q↔x.1≤q∧q≤x.2:=fun q=>by simp[aj]
 refine tN 2 5 wiF (wiV w b x fun q=>aj A q∧¬ (x.1≤q∧q≤x.2)) hPp δ n1 zF (fun i o h2 h5 J d w' K hk C hv Q=>?_) fun o J d w' hk H C hv=>?_
 ·rcases(show i=2∨i=3∨i=4 by omega)with rfl|rfl|rfl
  ·obtain rfl:=Option.some.inj J
   obtain⟨it,zt,i1,i2,i3,i4,i5⟩:=(show yy Tryz.prog 117 125 2 16 from⟨Tryz.underlying117,δ,ψ,ψ⟩).info;have e6:d.eval (.tmp 6)=.agg #[.int .u64 x.1,.int .u64 x.2]:=C.ev (x := .tmp 6) (v := .ag [.i .u64 (.x 0),.i .u64 (.x 1)]) δ;refine wp_buildSlice 117 125 1 _ rfl #[.int .u64 x.1,.int .u64 x.2] it zt Tryz.underlying117 i1 i2 (by rw[i3];decide) (by rw[i3];decide) ?_ ?_
   ·simp only[List.map_toArray,List.map_cons,List.map_nil]
    rw[i3,e6,lL 2 _ _ rfl ξ];rfl
   ·exact Q _ _ ((aD.refl _ _).alloc _) (qM (by have:=N.lt;have:=hk.size;omega) V.l1 V.l2 125)
  ·obtain⟨v,h7,O⟩:=hv 2 7 ψ ψ (by rw[show o=_ from(Option.some.inj J).symm];kernel_rfl) rfl
   obtain rfl:=Option.some.inj J;have O:aK w' b v [x]:=O;unfold Oper.wp;rw[execOp_call_go,cQ (f:=111) δ];have e7:d.eval (.tmp 7)=v:=h7.eval (by rw[C.size];decide);rw[show(#[]++(#[Operand.tmp 7]:Array Operand).map d.eval ++ #[]:Array Value) = #[d.eval (.tmp 7)] from ξ,e7];refine(ul O (by have:=N.lt;have:=hk.size;omega) (fun s hs=>by
    obtain rfl:=List.mem_singleton.1 hs;exact⟨V.l1,V.l2⟩)).mono fun e w2 ⟨u,l,he,X,D,Y,q4⟩=>?_
   subst he;exact Q _ _ q4 ⟨u,l,rfl,aK.r (Y b (by have:=N.lt;have:=hk.size;omega)),V.set X D,D⟩
  ·obtain⟨v,h7,O⟩:=hv 3 8 ψ ψ (by rw[show o=_ from(Option.some.inj J).symm];kernel_rfl) rfl
   obtain rfl:=Option.some.inj J;obtain⟨u,l,rfl,X,D,Y⟩:=(show ∃u l,v=.agg #[u]∧bZ w' u l∧dl l∧∀q,aj l q↔aj [x] q from O);unfold Oper.wp;rw[execOp_call_go,cQ (f:=110) δ];have e8:d.eval (.tmp 8)=.agg #[u]:=h7.eval (by rw[C.size];decide);have e5:d.eval (.tmp 5)=.agg #[.slice AA A.length cA]:=C.ev (x := .tmp 5) (v := .ag [.sl 1 1 2]) δ;rw[show(#[]++(#[Operand.tmp 5,Operand.tmp 8]:Array Operand).map d.eval ++ #[]:Array Value) = #[d.eval (.tmp 5),d.eval (.tmp 8)] from ξ,e5,e8];refine(fo (hA.keep (W.keep.trans hk fun _ _ h=>h)) X pA D).mono fun e w2 ⟨u2,l2,he,y1,y2,y3,y4,y5⟩=>?_
   subst he;refine Q _ _ y5 ⟨u2,l2,rfl,y1,fun q U=>y2 q ?_,y3,fun q=>(y4 q).trans (by simp only[Y,ac])⟩;have:=N.lt;have:=hk.size;have:=W.keep.size
   rcases U with U|U<;>omega
 ·obtain⟨v,h9,aa⟩:=hv 4 9 ψ ψ rfl
  obtain rfl:=Option.some.inj J;obtain⟨u,l,rfl,X,D,Y,q4⟩:=(show ∃u l,v=.agg #[u]∧bZ w' u l∧(∀q,q<w.heap.size∨q=b→aK w' q u l)∧dl l∧∀q,aj l q↔aj A q∧¬ (x.1≤q∧q≤x.2) from aa);obtain⟨A',B,rfl,_⟩:=id X;have e9:d.eval (.tmp 9)=.agg #[.slice A' l.length B]:=h9.eval (by rw[C.size];decide);have e4:d.eval (.tmp 4)=.pointer (some ⟨b,0,none⟩):=by
   rw[C.ev (x := .tmp 4) (v := .one (.p 2 0)) δ];show Value.pointer (some ⟨(Z 2).1,(Z 2).2+0,none⟩)=_;rw[←hb,x2]
  obtain⟨cs,E0,c1,c2,c3⟩:=(N.keep hk (fun h=>h)).all (vs:=[Value.slice A' l.length B]) rfl;refine bR rfl fun K Q=>?_
  unfold Oper.wp;rw[dI (vs:=[Value.slice A' l.length B]) (b:=b) (off:=0) (x := .tmp 4) (y := .tmp 9) (cs:=cs) (E0:=E0) rfl e4 (by rw[e9];rfl) (fun u L=>by obtain rfl:=List.mem_singleton.1 L;rfl) δ (Nat.one_pos) c1 (by simpa using c2)];have I:aD (fun g=>g=b) w' (w'.setRow b (bn cs 0 [Value.slice A' l.length B])):=dG _ _ _ rfl;refine Q _ _ (ln (km ?_));have f4:Has (wiS AA A.length cA x |>.put 16 { a:=fun _=>A',n:=fun j=>match j with|0=>l.length|_=>B }) Z 10 [(4,.one (.p 2 0))] d:=(C.sub δ).on (aS _ 16 _) δ;have hM:gI (wiS AA A.length cA x |>.put 16 { a:=fun _=>A',n:=fun j=>match j with|0=>l.length|_=>B }) Z [(2,[.sl 16 16 17])] (w'.setRow b (bn cs 0 [Value.slice A' l.length B])):=Row.memF (b:=b) (Prod.ext hb.symm x2) c3;refine pX (t:=4) (r:=2) (E:=119) (v := .ag [.sl 16 16 17]) rfl f4 rfl δ hM (H.defers.trans (W.agree.defers.trans hd)) ?_;rw[hR];refine⟨_,l,rfl,aK.r (aK.keep (D b (.inr rfl)) I),fun q U=>aK.other (aK.keep (D b (.inr rfl)) I) fun h0 g n c L=>?_,Y,q4,aV (W.keep.trans hk fun _ _ h=>h) I fun g hg=>by rw[show g=b from hg];exact x3⟩;obtain⟨A2,ad,e1,_,_,e2⟩:=D q (.inl U);obtain⟨g',e3,_,e4,_⟩:=e2 h0;have L:Value.slice A' l.length B=.slice (some ⟨g,0,none⟩) n c:=L;rw[e1,e3]at L
  cases L
  exact e4
