import Derived.Test.YtpblcjipmoblnaaGreatDoorRsp
import Derived.Test.YtpblcjipmoblnaaGreatDoorSmall
set_option maxRecDepth 100000
set_option linter.all false
set_option maxHeartbeats 4000000
namespace Go.Proofs.YtpblcjipmoblnaaGreatDoor.Rs
open Go.RowKit Go.Proofs.YtpblcjipmoblnaaGreatDoor Ck
variable {w:World} {B pb N kk:Nat} {y:Int→Int} {L:List Wr} {a:Act} {es:List Nat}
theorem hPt:Tryz.prog.follows .mixedOrders=true:=δ
theorem K3{T:Nat→Prop}{d g:World}(h:aD T w d)(k:aD T d g):aD T w g:=h.trans k fun _ _ e=>e
def gV(l:List (List Wr)):List Nat→List Wr
 | []=>[]
 | i::e=>l.getD i []++gV l e
def kQ(B pb:Nat)(v:aR)(P:aC)(y:Int→Int)(l:List (List Wr))(L:List Wr):Gh:=⟨fun k=>k=pb,fun e w=>aE B w pb v P y (gV l e++L),fun _ _ _ hk h=>h.new hk⟩
theorem C1{α:Type}{k:Nat}{R:World→Nat→Nat→α→Prop}{v:Value}{xs:List α}(h:aJ B k R w v xs){i:Nat}{x:α}(hx:xs[i]?=some x):∃g o,vA v=some ⟨g,o,none⟩∧g<B∧R w g (o+i*k) x:=by
 obtain⟨A,c,rfl,_,_,l⟩:=h;obtain⟨g,o,e,j,d⟩:=l (by have:=(List.getElem?_eq_some_iff.1 hx).1;omega);exact⟨g,o,e,j,d i x hx⟩
theorem yh{v:aR}{P:aC}(h:aE B w pb v P y L){S:Sta}{κ:Kap}{r:Nat}(q:κ r=(pb,0))(g:aa.map (Cl.den S κ)=v.cells P):pW S κ [(r,aa)] w:=by
 intro r' l d j c p;rw[fN]at d;split at d
 ·rename_i e
  subst e;obtain rfl:=Option.some.inj d;rw[q];simp only[Nat.zero_add];refine h.cell ?_;rw[←g,List.getElem?_map,p];rfl
 ·cases d
theorem AJ{v:aR}{P:aC}(h:ao B w v P){S:Sta}(d:Agr (lo 24) (cA v P) S)(κ:Kap):aa.map (Cl.den S κ)=v.cells P:=by
 rw[tW d δ,jw h]
def lz:List Cl:=(List.range 8).map fun j =>.v (24+j)
abbrev Mu:=Option Bool×IE×Int×Int
def muE(l:List Mu):List (FuncId×List SV×SV):=l.map fun x=>match x.1 with
 | some b=>(73,[.one (.p 0 0),.one (.b (.c b)),.one (.i .i64 x.2.1),.one (.i .i64 (.c x.2.2.1)),.one (.i .i64 (.c x.2.2.2))],.tu [])
 | none=>(75,[.one (.p 0 0),.one (.i .i64 x.2.1),.one (.i .i64 (.c x.2.2.1)),.one (.i .i64 (.c x.2.2.2))],.tu [])
def muS(S:Sta)(l:List Mu):List (List Wr):=l.map fun x=>match x.1 with
 | some b=>say b (x.2.1.den S) x.2.2.1
 | none=>[(x.2.1.den S,x.2.2.1)]
theorem Cb{B pb:Nat}{v:aR}{P:aC}{y:Int→Int}{L:List Wr}{S:Sta}{κ:Kap}{l:List Mu}{C:List (List Wr)}(E:κ 0=(pb,0))(J:∀x∈l,y x.2.2.1=x.2.2.2)(I:muS S l=C)(w:World):
 ∀i x,(muE l)[i]?=some x→∀e w',aD (fun k=>k=pb) w w'→aE B w' pb v P y (gV C e++L)→Calls Tryz.prog x.1 (x.2.1.map (SV.den S κ)).toArray w' fun e' d=>e'=.returned (x.2.2.den S κ)∧aD (fun k=>k=pb) w' d∧aE B d pb v P y (gV C (i::e)++L):=by
 subst I;intro i x hx e w' _ D;rw[muE,List.getElem?_map]at hx
 cases hq:l[i]? with
 | none=>rw[hq]at hx;cases hx
 | some q =>
  rw[hq]at hx;obtain rfl:=Option.some.inj hx;have A:=J q (List.mem_of_getElem? hq);obtain⟨K,g,h,H⟩:=q;simp only at A
  cases K with
  | some b =>
   have:=ae b (g.den S) h H D A;simp only[List.map_cons,List.map_nil,SV.den,Cl.den_p,Cl.den_b,Cl.den_i,BE.den,IE.den,E];refine this.mono fun e' d ⟨j,p,r⟩=>⟨j,r,?_⟩
   have u:(muS S l).getD i []=say b (g.den S) h:=by simp[muS,hq]
   rw[gV,u,List.append_assoc];exact p
  | none =>
   have:=ce (g.den S) h H D A;simp only[List.map_cons,List.map_nil,SV.den,Cl.den_p,Cl.den_i,IE.den,E];refine this.mono fun e' d ⟨j,p,r⟩=>⟨j,r,?_⟩
   have u:(muS S l).getD i []=[(g.den S,h)]:=by simp[muS,hq]
   rw[gV,u,List.append_assoc];exact p
def haE(l:List (Nat×SS×BE)):List (FuncId×List SV×SV):=l.map fun x=>(74,[.one (.v (24+x.1)),.one (.s x.2.1)],.one (.b x.2.2))
theorem Cj{z0:Nat}{P:aC}{D:Nat→DataW Value}{r:Nat→ByteArray→Value}(C:dI (z0+10) w (bP z0) (dN P) D r)(I:pb<z0){S:Sta}{κ:Kap}(E:∀j,j<8→S.o (24+j)=.map (some (z0+j+1))){l:List (Nat×SS×BE)}
 (H:∀x∈l,x.1<8∧x.2.2.den S=has ((dN P).getD x.1 []) (x.2.1.den S)∧aX (x.2.1.den S)):
 ∀x∈haE l,∀w',aD (fun k=>k=pb) w w'→Calls Tryz.prog x.1 (x.2.1.map (SV.den S κ)).toArray w' fun e g=>e=.returned (x.2.2.den S κ)∧Kz w' g:=by
 intro x hx w' hk;obtain⟨q,J,rfl⟩:=List.mem_map.1 hx;obtain⟨d,u,p⟩:=H q J;have h:=C.keep hk (fun k e _=>by subst e;exact⟨χ,by simp[bP];omega⟩);obtain⟨j,s,b⟩:=q;have v:(bP z0)[j]?=some (z0+j+1):=by
  simp only at d
  match j,d with
  | 0,_|1,_|2,_|3,_|4,_|5,_|6,_|7,_=>rfl
 have y:(dN P)[j]?=some ((dN P).getD j []):=by
  simp only at d
  match j,d with
  | 0,_|1,_|2,_|3,_|4,_|5,_|6,_|7,_=>rfl
 have:=mr h j _ _ v y (s.den S) (by simp only at p;unfold aX at p;unfold maxLen;omega);simp only[List.map_cons,List.map_nil,SV.den,Cl.den_s,Cl.den_b];rw[show Cl.den S κ (.v (24+j))=.map (some (z0+j+1)) from E j d,u];exact this.mono fun e g ⟨A,B⟩=>⟨A,B▸aD.refl _ _⟩
theorem yi{v:aR}{P:aC}{S:Sta}{κ:Kap}{EL:List (Nat×Nat×IE×Nat×Nat)}{H:Gh}{F:Fr}{M:Mm}
 (n:Now S κ N Tryz.prog { EL:=EL } H ⟨F,M,kk,es⟩ a w)(r:H.T=fun k=>k=pb)(A:aE B w pb v P y L)(C:κ 0=(pb,0))(u:Agr (lo 24) (cA v P) S)(q:List (List Wr))(FA:List (BE×Bool))(l:∀x∈FA,x.1.den S=x.2)(SL:List (Nat×Nat×Nat×IE×Nat))(p:∀x∈SL,(S.n x.2.2.2.2:Int)=x.2.2.2.1.den S∧S.n x.2.2.2.2≤S.n x.2.2.1)
 (ET:List (FuncId×List SV×SV))(j:∀i x,ET[i]?=some x→∀e w',aD (fun k=>k=pb) w w'→aE B w' pb v P y (gV q e++L)→Calls Tryz.prog x.1 (x.2.1.map (SV.den S κ)).toArray w' fun e' d=>e'=.returned (x.2.2.den S κ)∧aD (fun k=>k=pb) w' d∧aE B d pb v P y (gV q (i::e)++L))
 (CT:List (FuncId×List SV×SV))(h:∀x∈CT,∀L' w',aD (fun k=>k=pb) w w'→aE B w' pb v P y L'→Calls Tryz.prog x.1 (x.2.1.map (SV.den S κ)).toArray w' fun e d=>e=.returned (x.2.2.den S κ)∧Kz w' d):
 Now S κ N Tryz.prog { EL:=EL,FA:=FA,CT:=CT,ET:=ET,GM:=[(0,aa)],SL:=SL } (kQ B pb v P y q L) ⟨F,M,kk,[]⟩ a w:=by
 obtain⟨T,G,st⟩:=H;simp only at r;subst r;exact⟨n.has,n.mem,⟨l,n.ctx.el,fun x hx e w' hk g=>h x hx _ w' hk g,j,(fun e w' _ g=>yh g C (AJ (aE.QP g) u κ)),p⟩,n.tb,A⟩
theorem lF{v:aR}{P:aC}{S:Sta}{κ:Kap}{EL:List (Nat×Nat×IE×Nat×Nat)}{H:Gh}{F:Fr}{M:Mm}
 (n:Now S κ N Tryz.prog { EL:=EL } H ⟨F,M,kk,es⟩ a w)(q:H.T=fun k=>k=pb)(u:aE B w pb v P y L)(A:κ 0=(pb,0))(r:Agr (lo 24) (cA v P) S)(g:List (List Wr))(FA:List (BE×Bool))(l:∀x∈FA,x.1.den S=x.2)(SL:List (Nat×Nat×Nat×IE×Nat))(p:∀x∈SL,(S.n x.2.2.2.2:Int)=x.2.2.2.1.den S∧S.n x.2.2.2.2≤S.n x.2.2.1)
 (ET:List (FuncId×List SV×SV))(j:∀i x,ET[i]?=some x→∀e w',aD (fun k=>k=pb) w w'→aE B w' pb v P y (gV g e++L)→Calls Tryz.prog x.1 (x.2.1.map (SV.den S κ)).toArray w' fun e' d=>e'=.returned (x.2.2.den S κ)∧aD (fun k=>k=pb) w' d∧aE B d pb v P y (gV g (i::e)++L))
 (CT:List (FuncId×List SV×SV))(h:∀x∈CT,∀w',aD (fun k=>k=pb) w w'→Calls Tryz.prog x.1 (x.2.1.map (SV.den S κ)).toArray w' fun e d=>e=.returned (x.2.2.den S κ)∧Kz w' d):
 Now S κ N Tryz.prog { EL:=EL,FA:=FA,CT:=CT,ET:=ET,GM:=[(0,aa)],SL:=SL } (kQ B pb v P y g L) ⟨F,M,kk,[]⟩ a w:=
 yi n q u A r g FA l SL p ET j CT fun x hx _ w' hk _=>h x hx w' hk
theorem qB{α:Type}{S:Sta}{κ:Kap}{C:Ctx}{H:Gh}{b b2 t:Nat}{F0:Fr}{M:Mm}{R1 R2 body:Code}{Q:Exit→Act→World→Prop}{O:Act}{A:World}{v:aR}{P:aC}
 (af:Now S κ N Tryz.prog C H ⟨F0,M,kk,es⟩ O A)(hT:H.T=fun k=>k=pb)(hL:aE B A pb v P y L){z:Nat}{R:World→Nat→Nat→α→Prop}{u:Value}{xs:List α}(X:aJ B z R A u xs)(a1:jo B R)(f:List α→List Wr)(m q ja U:Nat)(FR:Fr)(ws:Nat→Bool)
 (hB:wh Tryz.prog N R1 R2 FR M kk q t m (.ln U) ws=true)(hn:S.n U=xs.length)(h0:Has (S.put m (Sta.cnt {} 0)) κ N (fx m q FR) O)(hu:vA u=S.a ja)(Φ:World→α→Sta→Prop)(cl:List Cl)(ad:f []=[])
 (hR:∀w g o x,R w g o x→∃d,Φ w x d∧∀k:Nat,aL w g o (cl.map (Cl.den (S.put m ((Sta.put {} 8 d).cnt k)) fun _=>(0,0))))(hs:(kj (lo (m+8)) (fx m q FR)&&(lj (lo (m+8)) M&&((lo m U&&lo m ja)&&(St.sc ⟨fx m q FR,M,kk,[]⟩&&cl.all (Cl.sc 0)))))=true)
 (hb:∀(k:Nat) x d κ' a w L1,xs[k]?=some x→Φ w x d→eU kk κ κ'→aE B w pb v P y L1→Now (S.put m ((Sta.put {} 8 d).cnt k)) κ' N Tryz.prog { EL:=[(ja,z,.x m,U,kk)] } ⟨fun k=>k=pb,fun _ w=>aE B w pb v P y L1,fun _ _ _ hk h=>h.new hk⟩ ⟨fx m q FR,(kk,cl)::M,kk+1,[]⟩ a w→aA ws O a→aD (fun k=>k=pb) A w →
  body.wp Tryz.prog (cC b b2 (fun D w'=>∃K L2,eU kk κ K∧Has (S.put m ((Sta.put {} 8 d).cnt k)) K N (fx m q FR) D∧aA ws a D∧aD (fun k=>k=pb) w w'∧aE B w' pb v P y (L2++L1)∧∀p,p∈f (xs.take (k+1))↔p∈L2∨p∈f (xs.take k)) Q) a w)
 (hq:∀a w,aE B w pb v P y (f xs++L)→Now (S.put m (Sta.cnt {} xs.length)) κ N Tryz.prog {} ⟨fun k=>k=pb,fun _ w=>aE B w pb v P y (f xs++L),fun _ _ _ hk h=>h.new hk⟩ ⟨fx m q FR,M,kk,[]⟩ a w→aA ws O a→aD (fun k=>k=pb) A w→Q .normal a w):
 (Code.block b (Code.loop (Code.seq R1 (Code.seq (Code.cond (.tmp t) .skip (.exit b)) (Code.seq (Code.block b2 body) R2))))).wp Tryz.prog Q O A:=by
 obtain⟨HT,HG,a3⟩:=H;simp only at hT;subst hT;have W:xs.length≤top:=by obtain⟨_,_,_,_,h,_⟩:=X;exact h
 have Z:B≤A.heap.size:=by have:=hL.base;have:=hL.lt;omega
 refine Ag af xs.length m q U FR ws (fun _:Unit=>{}) (fun k _ w=>aE B w pb v P y (f (xs.take k)++L)) (fun _ _ _ _ hk h=>h.new hk) () hPt hB hn (by unfold top at W;omega) (by simpa[ad]using hL) h0 ?_ ?_
 ·intro k _ a w hk I Y V
  obtain⟨x,hx⟩:=ge hk;have E:aE B w pb v P y (f (xs.take k)++L):=I.gh;obtain⟨g,o,h1,h2,h3⟩:=C1 X hx;have a4:=E.base;have W:=E.lt;have ac:aD (fun k=>k=pb) A w:=V;obtain⟨d,hd,h4⟩:=hR _ _ _ _ (a1 _ _ _ _ _ (ac.below (B:=B) Z (fun i hi e=>by subst e;omega)) h2 h3);obtain⟨κ',a2,J⟩:=I.elem2 (ja:=ja) (j:=U) (x:=d) (cl:=cl) (hu▸h1) ⟨χ,by show ¬ g=pb;omega⟩ (by rw[hn];exact hk) (h4 k) rfl hs;refine wp_mono (hb k x d κ' a w _ hx hd a2 E ⟨J.has,J.mem,⟨J.ctx.fa,J.ctx.el,J.ctx.ct,ξ,(fun _ _ _ _ r l h=>by cases h),ξ⟩,J.tb,J.gh⟩ Y V) fun e D w' hh=>?_
  have fin:∀{D w'},(∃K L2,eU kk κ K∧Has (S.put m ((Sta.put {} 8 d).cnt k)) K N (fx m q FR) D∧aA ws a D∧aD (fun k=>k=pb) w w'∧aE B w' pb v P y (L2++(f (xs.take k)++L))∧∀p,p∈f (xs.take (k+1))↔p∈L2∨p∈f (xs.take k))→gj S κ N m kk (fx m q FR) ws (fun _:Unit=>{}) (fun k=>k=pb) (fun k _ w=>aE B w pb v P y (f (xs.take k)++L)) k O A D w':=by
   rintro D w' ⟨K,L2,q1,q2,q3,q4,q5,q6⟩;simp only[Bool.and_eq_true]at hs;refine⟨(),K,q5.congr fun p=>?_,q1,q2.on (cG S m {} d k).symm hs.1,Y.trans q3 (fun _ h=>h),K3 V q4⟩;simp only[List.mem_append,q6,or_assoc]
  cases e with
  | normal=>exact fin hh
  | exit id =>
   simp only[cC]at hh⊢;split
   ·rename_i e;rw[if_pos e]at hh;exact fin hh
   ·rename_i e;rw[if_neg e]at hh;exact hh
  | _=>exact hh
 ·intro _ a w I Y V
  have E:aE B w pb v P y (f (xs.take xs.length)++L):=I.gh;rw[List.take_length]at E;exact hq a w E ⟨I.has,I.mem,noC _ _ _ _ _,I.tb,E⟩ Y V
theorem wj{α β:Type}{f:α→List β}{xs:List α}{k:Nat}{x:α}(hx:xs[k]?=some x)(p:β):p∈(xs.take (k+1)).flatMap f↔p∈f x∨p∈(xs.take k).flatMap f:=by
 rw[aP hx];simp[or_comm]
def ck(ti j:Nat)(base:Fr):Fr:=(ti-1,.one (.i .i64 (.ln j)))::(ti-2,.one (.sl j j (12+j)))::base
noncomputable def CW(N:Nat)(r R1 R2:Code)(F:Fr)(M:Mm)(kk ti t j:Nat)(base:Fr)(cl:List Cl):Bool:=
 jd (iI Tryz.prog { GM:=[(0,aa)] } N [r] ⟨F,M,kk,[]⟩) ⟨F,M,kk,[]⟩ .n (fun _=>true) ((ti,.one (.i .i64 (.c 0)))::ck ti j base) M kk [] &&
 (wh Tryz.prog N R1 R2 (ck ti j base) M kk ti t 32 (.ln j) (fun _=>true)&&(kj (lo 32) (ck ti j base)&&((gt (ck ti j base) ti).isNone&&(qH (fx 32 ti (ck ti j base)) base&&((kj (lo 32) base&&lj (lo 32) M) &&
 (kj (lo 40) (fx 32 ti (ck ti j base))&&(lj (lo 40) M&&((lo 32 j&&lo 32 j)&&(St.sc ⟨fx 32 ti (ck ti j base),M,kk,[]⟩&&cl.all (Cl.sc 0))))))))))
theorem lQ{α:Type}{S:Sta}{κ:Kap}{b b2 t:Nat}{F:Fr}{M:Mm}{r R1 R2 body:Code}{l:List Code}{Q:Exit→Act→World→Prop}{v:aR}{P:aC}
 (n:Now S κ N Tryz.prog { GM:=[(0,aa)] } (kQ B pb v P y [] L) ⟨F,M,kk,[]⟩ a w)(hκ:κ 0=(pb,0))(Y:0<kk)(hS:Agr (lo 24) (cA v P) S){z:Nat}{R:World→Nat→Nat→α→Prop}{u:Value}{xs:List α}(af:∀w,ao B w v P→aJ B z R w u xs)(ad:jo B R)(f:List α→List Wr)(A j:Nat)(base:Fr)(cl:List Cl)
 (hB:CW N r R1 R2 F M kk A t j base cl=true)(hn:S.n j=xs.length)(hu:vA u=S.a j)(ac:f []=[])(Φ:World→α→Sta→Prop)
 (hR:∀w g o x,R w g o x→∃d,Φ w x d∧∀k:Nat,aL w g o (cl.map (Cl.den (S.put 32 ((Sta.put {} 8 d).cnt k)) fun _=>(0,0))))
 (hb:∀(k:Nat) x d κ' D w' L1,xs[k]?=some x→Φ w' x d→κ' 0=(pb,0)→Agr (lo 24) (cA v P) (S.put 32 ((Sta.put {} 8 d).cnt k))→aD (fun k=>k=pb) w w'→aE B w' pb v P y L1→Now (S.put 32 ((Sta.put {} 8 d).cnt k)) κ' N Tryz.prog { EL:=[(j,z,.x 32,j,kk)] } ⟨fun k=>k=pb,fun _ w=>aE B w pb v P y L1,fun _ _ _ hk h=>h.new hk⟩ ⟨fx 32 A (ck A j base),(kk,cl)::M,kk+1,[]⟩ D w' →
  body.wp Tryz.prog (cC b b2 (fun H W=>∃C L2,eU kk κ' C∧Has (S.put 32 ((Sta.put {} 8 d).cnt k)) C N (fx 32 A (ck A j base)) H∧H.defers=D.defers∧H.tmps.size=D.tmps.size∧aD (fun k=>k=pb) w' W∧aE B W pb v P y (L2++L1)∧∀p,p∈f (xs.take (k+1))↔p∈L2∨p∈f (xs.take k)) (Exit.then (wpL Tryz.prog Q l) Q)) D w')
 (E:∀κ' D w',κ' 0=(pb,0)→Now S κ' N Tryz.prog { GM:=[(0,aa)] } (kQ B pb v P y [] (f xs++L)) ⟨base,M,kk,[]⟩ D w'→D.defers=a.defers→aD (fun k=>k=pb) w w'→wpL Tryz.prog Q l D w'):
 wpL Tryz.prog Q (r::Code.block b (Code.loop (Code.seq R1 (Code.seq (Code.cond (.tmp t) .skip (.exit b)) (Code.seq (Code.block b2 body) R2))))::l) a w:=by
 simp only[CW,Bool.and_eq_true]at hB;obtain⟨g1,g2,g3,g4,g5,g6,g7⟩:=hB;refine am 1 (fun _=>true) _ M kk [] hPt g1 n fun κ1 a1 w1 V K=>aM (qB V rfl V.gh (af w1 (aE.QP V.gh)) ad f 32 A j j (ck A j base) (fun _=>true) g2 hn ?_ hu Φ cl ac hR (by simp only[Bool.and_eq_true];exact g7) ?_ ?_)
 ·have h1:=(V.has.tail g4).on (aQ S 32 (Sta.cnt {} 0)) g3
  refine⟨h1.size,fun q x E=>?_⟩;rw[fx,bD]at E;split at E
  ·rename_i e
   subst e;obtain rfl:=Option.some.inj E;rw[V.has.get _ _ (by rw[bD,if_pos rfl])];rfl
  ·exact h1.get q x E
 ·intro k x d κ' J X L1 hx hd U hl n2 hA Z
  refine wp_mono (hb k x d κ' J X L1 hx hd ((U 0 Y).trans ((K.upto 0 Y).trans hκ)) (hS.trans ((aQ S 32 _).mono fun q E=>Nat.ble_eq_true_of_le (Nat.le_trans (Nat.le_of_ble_eq_true E) ψ))) (K3 K.keep Z) hl n2) fun e I O hh=>?_
  have fin:∀{I O},(∃C L2,eU kk κ' C∧Has (S.put 32 ((Sta.put {} 8 d).cnt k)) C N (fx 32 A (ck A j base)) I∧I.defers=J.defers∧I.tmps.size=J.tmps.size∧aD (fun k=>k=pb) X O∧aE B O pb v P y (L2++L1)∧∀p,p∈f (xs.take (k+1))↔p∈L2∨p∈f (xs.take k)) →
   ∃C L2,eU kk κ1 C∧Has (S.put 32 ((Sta.put {} 8 d).cnt k)) C N (fx 32 A (ck A j base)) I∧aA (fun _=>true) J I∧aD (fun k=>k=pb) X O∧aE B O pb v P y (L2++L1)∧∀p,p∈f (xs.take (k+1))↔p∈L2∨p∈f (xs.take k):=by
   rintro I O ⟨C,L2,q1,q2,q3,q4,q5,q6,q7⟩;exact⟨C,L2,fun r hr=>(q1 r hr).trans (U r hr),q2,⟨q4,q3,fun i hi=>by cases hi⟩,q5,q6,q7⟩
  cases e with
  | normal=>exact fin hh
  | exit id =>
   simp only[cC]at hh⊢;split
   ·rename_i e;rw[if_pos e]at hh;exact fin hh
   ·rename_i e;rw[if_neg e]at hh;exact hh
  | _=>exact hh
 ·intro J X hl n2 hA Z
  have n3:=n2.down base (by simp only[Bool.and_eq_true];exact⟨g5,g6.1,g6.2⟩);exact E κ1 J X ((K.upto 0 Y).trans hκ) (lF (EL:=[]) n3 rfl hl ((K.upto 0 Y).trans hκ) hS [] [] ξ [] ξ [] ξ [] ξ) (hA.defers.trans K.agree.defers) (K3 K.keep Z)
